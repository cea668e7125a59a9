/- The codec's Cmd and CmdBytes, walked. -/
import Derived.Test.YtgdoodeibcfcjaaGreatCEnd
import Derived.Test.YtgdoodeibcfcjaaGreatShelf
set_option linter.unusedVariables false
set_option linter.unusedSimpArgs false
namespace Go.Proofs.YtgdoodeibcfcjaaGreat.Wire
open Go.RowKit Go.Proofs.YtgdoodeibcfcjaaGreat.NumsPure Go.Proofs.YtgdoodeibcfcjaaGreat.CPure Go.Proofs.YtgdoodeibcfcjaaGreat.Own
open Go.Proofs.YtgdoodeibcfcjaaGreat.Put (digits digits_lt digits_ge)
open Go.Proofs.YtgdoodeibcfcjaaGreat.BldS (Keeps)
/-- An argument's list of things: in blocks that stood before. -/
structure RowA (w : World) (A : Option Addr) (k : Nat) (ks : List K) (c : Nat) (rows : List (List Value)) : Prop where
  at_ : 0 < rows.length → ∃ ad, A = some ad ∧ ad.block < w.heap.size ∧ ∀ (i : Nat) x, rows[i]? = some x → ∀ (m : Nat) v, x[m]? = some v → w.cell? (ad.add (i * k + m)) = some v
  cap : rows.length ≤ c
  fits : ∀ x ∈ rows, Fits ks x
  few : rows.length ≤ 100000000
theorem RowA.rowW {w w1 : World} {A : Option Addr} {k c bb : Nat} {ks : List K} {rows : List (List Value)} (h : RowA w A k ks c rows) (b : Below w.heap.size w w1) : RowW w.heap.size bb w1 (some (.slice A rows.length c)) k ks rows := by
  refine ⟨⟨A, c, rfl, ⟨fun hl => ?_⟩, h.cap⟩, h.fits, h.few⟩
  obtain ⟨ad, e, hb, hc⟩ := h.at_ hl
  refine ⟨ad, e, Stay.old hb, fun i x hx m v hv => ?_⟩
  rw [b.cell (p := ad.add (i * k + m)) (by rw [block_of_add]; exact hb)]
  exact hc i x hx m v hv
set_option maxHeartbeats 4000000 in
set_option maxRecDepth 100000 in
theorem cmdBytes_any {op : Int} {A1 A2 : Option Addr} {c1 c2 : Nat} {R1 R2 : List (List Value)} {w : World} (h1 : RowA w A1 1 ks_str c1 R1) (h2 : RowA w A2 1 ks_int c2 R2) (hl : (enc_cmd R1 R2 op).length ≤ 140737488355328) :
    Calls Tryz.prog 10 #[.agg #[.int .i64 op, .slice A1 R1.length c1, .slice A2 R2.length c2]] w fun e w' => e = .returned (.string ⟨(enc_cmd R1 R2 op).toArray⟩) ∧ Below w.heap.size w w' := by
  have H1 := Aside0.mk h1
  have H2 := Aside0.mk h2
  have HL := Aside0.mk hl
  clear h1 h2 hl
  go_enter Tryz.func10, Tryz.ntmps10
  go_wp2_with (fail)
  obtain ⟨W, hW⟩ : ∃ W, W = ((w.alloc (.cells #[.int .i64 op, .slice A1 R1.length c1, .slice A2 R2.length c2] 41)).alloc (.cells #[.pointer none, .slice none 0 0] 108)).alloc (.cells #[.pointer (some ⟨w.heap.size + 1, 0, none⟩), .string ⟨#[]⟩, .bool false] 110) := ⟨_, rfl⟩
  have hB : Below w.heap.size w W := by rw [hW]; exact (((Below.refl _ w).alloc (Nat.le_refl _) _).alloc (by simp) _).alloc (by simp; omega) _
  have g0 : Cs w.heap.size 41 [.int .i64 op, .slice A1 R1.length c1, .slice A2 R2.length c2] W := by
    rw [hW]
    exact Cs.keep (Cs.keep (cs_alloc w _ _ _ rfl) ((alloc_below _ _).block _ (by simp))) ((alloc_below _ _).block _ (by simp; omega))
  have g1 : Lib.IsBuilder 108 5 w.heap.size (w.heap.size + 1) (Lib.byteCells []) W := by
    rw [hW]
    refine .inl ⟨Nat.le_succ _, .slice none 0 0, ?_, World.ownsRow_nil _ _ _ _, by simp [Value.ownBlock]⟩
    have k := heap_alloc_new (w.alloc (.cells #[.int .i64 op, .slice A1 R1.length c1, .slice A2 R2.length c2] 41)) (.cells #[.pointer none, .slice none 0 0] 108)
    have e : (w.alloc (.cells #[.int .i64 op, .slice A1 R1.length c1, .slice A2 R2.length c2] 41)).heap.size = w.heap.size + 1 := by simp
    rw [e] at k
    exact ((alloc_below _ _).block _ (by simp)).trans k
  have g2 : Cs (w.heap.size + 1 + 1) 110 [.pointer (some ⟨w.heap.size + 1, 0, none⟩), .string ⟨#[]⟩, .bool false] W := by
    rw [hW]
    have := cs_alloc ((w.alloc (.cells #[.int .i64 op, .slice A1 R1.length c1, .slice A2 R2.length c2] 41)).alloc (.cells #[.pointer none, .slice none 0 0] 108)) #[.pointer (some ⟨w.heap.size + 1, 0, none⟩), .string ⟨#[]⟩, .bool false] 110 _ rfl
    simpa using this
  have HWr : Aside0 (Wr w.heap.size (w.heap.size + 1 + 1) (w.heap.size + 1) [] W) := ⟨⟨g2, g1, hB.size⟩⟩
  have HG := Aside0.mk (And.intro g0 hB)
  rw [← hW]
  clear hW g0 g1 g2 hB
  refine (cmd_w HWr.out HG.out.1 rfl (H1.out.rowW HG.out.2) (H2.out.rowW HG.out.2) (by simpa using HL.out)).mono ?_
  rintro e w1 ⟨rfl, p1, p2⟩
  have HP := Aside0.mk (And.intro p1 p2)
  clear p1 p2
  have k0 := HP.out.1.out
  go_wp2_with (go_at_call 31; refine (Tryz.Builder_String_any _ _ _ _ HP.out.1.hb HP.out.1.le).mono ?_; rintro e w2 ⟨rfl, hw2⟩; have HQ := Aside0.mk hw2; clear hw2)
  go_ret
  exact ⟨rfl, HG.out.2.trans (HP.out.2.below.trans HQ.out)⟩
/-- What a command's bytes are read as. -/
def cmdS (D : List UInt8) : Rd := st_cmd_3 ⟨D, false⟩
def cmdN (D : List UInt8) : Int := if endN (cmdS D) = 0 then unfoldN (takeN (st_cmd_0 ⟨D, false⟩)).1 else 0
def cmdT (D : List UInt8) : List (List Value) := if endN (cmdS D) = 0 then (rdList ks_str (st_cmd_1 ⟨D, false⟩)).2 else []
def cmdI (D : List UInt8) : List (List Value) := if endN (cmdS D) = 0 then (rdList ks_int (st_cmd_2 ⟨D, false⟩)).2 else []
/-- A command that the call has made. -/
def CmdRes (D : List UInt8) (w : World) (e : Ending) (w' : World) : Prop := Below w.heap.size w w' ∧ ∃ v1 v2, e = .returned (.tuple #[.agg #[.int .i64 (cmdN D), v1, v2], .int .i64 (endN (cmdS D))]) ∧ w'.ownsRow w.heap.size 9 1 v1 (cmdT D).length (cmdT D).flatten ∧ w'.ownsRow w.heap.size 3 1 v2 (cmdI D).length (cmdI D).flatten
end Go.Proofs.YtgdoodeibcfcjaaGreat.Wire
