/- The codec's Cmd and CmdBytes, walked. -/
import Derived.Test.YtgdoodeibcfcjaaCEnd
import Derived.Test.YtgdoodeibcfcjaaShelf
set_option linter.unusedVariables false
set_option linter.unusedSimpArgs false
namespace Go.Proofs.Ytgdoodeibcfcjaa.Wire
open Go.RowKit Go.Proofs.Ytgdoodeibcfcjaa.NumsPure Go.Proofs.Ytgdoodeibcfcjaa.CPure Go.Proofs.Ytgdoodeibcfcjaa.Own
open Go.Proofs.Ytgdoodeibcfcjaa.Put (digits digits_lt digits_ge)
open Go.Proofs.Ytgdoodeibcfcjaa.BldS (Keeps)
/-- An argument's list of things: in blocks that stood before. -/
structure RowA (w : World) (A : Option Addr) (k : Nat) (ks : List K) (c : Nat) (rows : List (List Value)) : Prop where
  at_ : 0 < rows.length → ∃ ad, A = some ad ∧ ad.block < w.heap.size ∧ ∀ (i : Nat) x, rows[i]? = some x → ∀ (m : Nat) v, x[m]? = some v → w.cell? (ad.add (i * k + m)) = some v
  cap : rows.length ≤ c
  fits : ∀ x ∈ rows, Fits ks x
  few : rows.length ≤ 100000000
theorem RowA.rowW {w w1 : World} {A : Option Addr} {k c bb : Nat} {ks : List K} {rows : List (List Value)} (h : RowA w A k ks c rows) (b : Below w.heap.size w w1) : RowW w.heap.size bb w1 (some (.slice A rows.length c)) k ks rows := by
  refine ⟨⟨A, c, rfl, ⟨fun hl => ?_⟩, h.cap⟩, h.fits, h.few⟩
  obtain ⟨ad, e, hb, hc⟩ := h.at_ hl
  refine ⟨ad, e, Stay.old hb, fun i x hx m v hv => ?_⟩
  rw [b.cell (p := ad.add (i * k + m)) (by rw [block_of_add]; exact hb)]
  exact hc i x hx m v hv
set_option maxHeartbeats 4000000 in
set_option maxRecDepth 100000 in
theorem cmdBytes_any {op : Int} {A1 A2 : Option Addr} {c1 c2 : Nat} {R1 R2 : List (List Value)} {w : World} (h1 : RowA w A1 1 ks_str c1 R1) (h2 : RowA w A2 1 ks_int c2 R2) (hl : (enc_cmd R1 R2 op).length ≤ 140737488355328) :
    Calls Try.prog 16 #[.agg #[.int .i64 op, .slice A1 R1.length c1, .slice A2 R2.length c2]] w fun e w' => e = .returned (.string ⟨(enc_cmd R1 R2 op).toArray⟩) ∧ Below w.heap.size w w' := by
  have H1 := Aside0.mk h1
  have H2 := Aside0.mk h2
  have HL := Aside0.mk hl
  clear h1 h2 hl
  go_enter Try.func16, Try.ntmps16
  go_wp2_with (fail)
  obtain ⟨W, hW⟩ : ∃ W, W = ((w.alloc (.cells #[.int .i64 op, .slice A1 R1.length c1, .slice A2 R2.length c2] 44)).alloc (.cells #[.pointer none, .slice none 0 0] 127)).alloc (.cells #[.pointer (some ⟨w.heap.size + 1, 0, none⟩), .string ⟨#[]⟩, .bool false] 61) := ⟨_, rfl⟩
  have hB : Below w.heap.size w W := by rw [hW]; exact (((Below.refl _ w).alloc (Nat.le_refl _) _).alloc (by simp) _).alloc (by simp; omega) _
  have g0 : Cs w.heap.size 44 [.int .i64 op, .slice A1 R1.length c1, .slice A2 R2.length c2] W := by
    rw [hW]
    exact Cs.keep (Cs.keep (cs_alloc w _ _ _ rfl) ((alloc_below _ _).block _ (by simp))) ((alloc_below _ _).block _ (by simp; omega))
  have g1 : Lib.IsBuilder 127 5 w.heap.size (w.heap.size + 1) (Lib.byteCells []) W := by
    rw [hW]
    refine .inl ⟨Nat.le_succ _, .slice none 0 0, ?_, World.ownsRow_nil _ _ _ _, by simp [Value.ownBlock]⟩
    have k := heap_alloc_new (w.alloc (.cells #[.int .i64 op, .slice A1 R1.length c1, .slice A2 R2.length c2] 44)) (.cells #[.pointer none, .slice none 0 0] 127)
    have e : (w.alloc (.cells #[.int .i64 op, .slice A1 R1.length c1, .slice A2 R2.length c2] 44)).heap.size = w.heap.size + 1 := by simp
    rw [e] at k
    exact ((alloc_below _ _).block _ (by simp)).trans k
  have g2 : Cs (w.heap.size + 1 + 1) 61 [.pointer (some ⟨w.heap.size + 1, 0, none⟩), .string ⟨#[]⟩, .bool false] W := by
    rw [hW]
    have := cs_alloc ((w.alloc (.cells #[.int .i64 op, .slice A1 R1.length c1, .slice A2 R2.length c2] 44)).alloc (.cells #[.pointer none, .slice none 0 0] 127)) #[.pointer (some ⟨w.heap.size + 1, 0, none⟩), .string ⟨#[]⟩, .bool false] 61 _ rfl
    simpa using this
  have HWr : Aside0 (Wr w.heap.size (w.heap.size + 1 + 1) (w.heap.size + 1) [] W) := ⟨⟨g2, g1, hB.size⟩⟩
  have HG := Aside0.mk (And.intro g0 hB)
  rw [← hW]
  clear hW g0 g1 g2 hB
  refine (cmd_w HWr.out HG.out.1 rfl (H1.out.rowW HG.out.2) (H2.out.rowW HG.out.2) (by simpa using HL.out)).mono ?_
  rintro e w1 ⟨rfl, p1, p2⟩
  have HP := Aside0.mk (And.intro p1 p2)
  clear p1 p2
  have k0 := HP.out.1.out
  go_wp2_with (go_at_call 45; refine (Try.Builder_String_any _ _ _ _ HP.out.1.hb HP.out.1.le).mono ?_; rintro e w2 ⟨rfl, hw2⟩; have HQ := Aside0.mk hw2; clear hw2)
  go_ret
  exact ⟨rfl, HG.out.2.trans (HP.out.2.below.trans HQ.out)⟩
/-- What a command's bytes are read as. -/
def cmdS (D : List UInt8) : Rd := st_cmd_3 ⟨D, false⟩
def cmdN (D : List UInt8) : Int := if endN (cmdS D) = 0 then unfoldN (takeN (st_cmd_0 ⟨D, false⟩)).1 else 0
def cmdT (D : List UInt8) : List (List Value) := if endN (cmdS D) = 0 then (rdList ks_str (st_cmd_1 ⟨D, false⟩)).2 else []
def cmdI (D : List UInt8) : List (List Value) := if endN (cmdS D) = 0 then (rdList ks_int (st_cmd_2 ⟨D, false⟩)).2 else []
/-- A command that the call has made. -/
def CmdRes (D : List UInt8) (w : World) (e : Ending) (w' : World) : Prop := Below w.heap.size w w' ∧ ∃ v1 v2, e = .returned (.tuple #[.agg #[.int .i64 (cmdN D), v1, v2], .int .i64 (endN (cmdS D))]) ∧ w'.ownsRow w.heap.size 9 1 v1 (cmdT D).length (cmdT D).flatten ∧ w'.ownsRow w.heap.size 3 1 v2 (cmdI D).length (cmdI D).flatten
set_option maxHeartbeats 4000000 in
set_option maxRecDepth 100000 in
theorem cmd_any (D : List UInt8) (hl : D.length ≤ 100000000) (w : World) : Calls Try.prog 9 #[.string ⟨D.toArray⟩] w (CmdRes D w) := by
  have HL := Aside0.mk hl
  clear hl
  obtain ⟨S, hS⟩ : ∃ S : ByteArray, S = ⟨D.toArray⟩ := ⟨_, rfl⟩
  rw [← hS]
  have HS := Aside0.mk hS
  clear hS
  go_enter Try.func9, Try.ntmps9
  go_wp2_with (fail)
  obtain ⟨W, hW⟩ : ∃ W, W = ((w.alloc (.cells #[.int .i64 0, .slice none 0 0, .slice none 0 0] 44)).alloc (.cells #[.pointer none, .string S, .bool false] 61)).alloc (.cells #[.int .i64 0, .slice none 0 0, .slice none 0 0] 44) := ⟨_, rfl⟩
  have hB : Below w.heap.size w W := by rw [hW]; exact (((Below.refl _ w).alloc (Nat.le_refl _) _).alloc (by simp) _).alloc (by simp; omega) _
  have g0 : Cs w.heap.size 44 [.int .i64 0, .slice none 0 0, .slice none 0 0] W := by
    rw [hW]
    exact Cs.keep (Cs.keep (cs_alloc w _ _ _ rfl) ((alloc_below _ _).block _ (by simp))) ((alloc_below _ _).block _ (by simp; omega))
  have g1 : Rw (w.heap.size + 1) ⟨D, false⟩ W := by
    rw [hW]
    have k := cs_alloc (w.alloc (.cells #[.int .i64 0, .slice none 0 0, .slice none 0 0] 44)) #[.pointer none, .string S, .bool false] 61 _ rfl
    have e : (w.alloc (.cells #[.int .i64 0, .slice none 0 0, .slice none 0 0] 44)).heap.size = w.heap.size + 1 := by simp
    rw [e] at k
    have := Cs.keep k ((alloc_below _ (.cells #[.int .i64 0, .slice none 0 0, .slice none 0 0] 44)).block _ (by simp))
    rw [HS.out] at this ⊢
    exact this
  have g2 : Cs (w.heap.size + 1 + 1) 44 [.int .i64 0, .slice none 0 0, .slice none 0 0] W := by
    rw [hW]
    have := cs_alloc ((w.alloc (.cells #[.int .i64 0, .slice none 0 0, .slice none 0 0] 44)).alloc (.cells #[.pointer none, .string S, .bool false] 61)) #[.int .i64 0, .slice none 0 0, .slice none 0 0] 44 _ rfl
    simpa using this
  have HG := Aside0.mk (And.intro g0 (And.intro g1 (And.intro g2 hB)))
  rw [← hW]
  clear hW g0 g1 g2 hB
  refine (cmd_r HG.out.2.1 HG.out.2.2.1 (by omega) HL.out).mono ?_
  rintro e w1 ⟨rfl, hcs, hlen, q1, q2, q3, q4⟩
  obtain ⟨v1, s1, o1⟩ := q4.r1
  obtain ⟨v2, s2, o2⟩ := q4.r2
  have s0 := q4.n0
  match hcs, hlen with
  | [x0, x1, x2], _ =>
    obtain rfl : x0 = .int .i64 (unfoldN (takeN (st_cmd_0 ⟨D, false⟩)).1) := by simpa using s0
    obtain rfl : x1 = v1 := by simpa using s1
    obtain rfl : x2 = v2 := by simpa using s2
    have hrb : Cs w.heap.size 44 [.int .i64 0, .slice none 0 0, .slice none 0 0] w1 := HG.out.1.keep (q3.block _ HG.out.1.lt (by rintro (e | e) <;> omega))
    obtain ⟨A1, c1, rfl⟩ := own_shape o1
    obtain ⟨A2, c2, rfl⟩ := own_shape o2
    obtain ⟨en, hen⟩ : ∃ en, en = endN (st_cmd_3 ⟨D, false⟩) := ⟨_, rfl⟩
    have ce := end_r q1
    rw [← hen] at ce
    have k0 := q2.cell 0
    have k1 := q2.cell 1
    have k2 := q2.cell 2
    simp only [List.getElem?_cons_zero, List.getElem?_cons_succ] at k0 k1 k2
    have f0 := hrb.frozen
    have r0 := hrb.cell 0
    have r1 := hrb.cell 1
    have r2 := hrb.cell 2
    simp only [List.getElem?_cons_zero, List.getElem?_cons_succ] at r0 r1 r2
    have HQ := Aside0.mk (And.intro q3 (And.intro o1 o2))
    have HE := Aside0.mk hen
    clear q1 q2 q3 q4 s0 s1 s2 o1 o2 hrb hen
    go_wp2_with (fail)
    refine ce.mono ?_
    rintro e w2 ⟨rfl, rfl⟩
    by_cases h0 : en = 0
    · subst h0
      go_wp2
      refine bodyPost_ret (v := .tuple #[.agg #[.int .i64 (unfoldN (takeN (st_cmd_0 ⟨D, false⟩)).1), .slice A1 (rdList ks_str (st_cmd_1 ⟨D, false⟩)).2.length c1, .slice A2 (rdList ks_int (st_cmd_2 ⟨D, false⟩)).2.length c2], .int .i64 0]) (by simp [results, Try.results9, go_sem, r0, r1, r2]) rfl ?_
      obtain ⟨q3, o1, o2⟩ := HQ.out
      have hbel : Below w.heap.size w w2 := ((Fr.of_below (own := fun i => i = w.heap.size + 1 ∨ i = w.heap.size + 1 + 1) HG.out.2.2.2).trans q3 fun i hi => .inl hi).below fun i hi => by rcases hi with e | e <;> omega
      have hWs : w.heap.size < W.heap.size := HG.out.1.lt
      have hne : ∀ {v : Value} {n k : Nat} {T : TypeId} {xs : List Value}, w2.ownsRow W.heap.size T k v n xs → ∀ u0 u1 u2, (((w2.setCell ⟨w.heap.size, 0, none⟩ u0).setCell ⟨w.heap.size, 1, none⟩ u1).setCell ⟨w.heap.size, 2, none⟩ u2).ownsRow w.heap.size T k v n xs := fun h u0 u1 u2 =>
        own_mono (own_same h fun g hg => by
          have := (h.lt g hg).1
          rw [Below.heap_setCell _ _ _ _ (by show g ≠ w.heap.size; omega), Below.heap_setCell _ _ _ _ (by show g ≠ w.heap.size; omega), Below.heap_setCell _ _ _ _ (by show g ≠ w.heap.size; omega)]) (Nat.le_of_lt hWs)
      have e1 : cmdN D = unfoldN (takeN (st_cmd_0 ⟨D, false⟩)).1 := by unfold cmdN cmdS; rw [if_pos HE.out.symm]
      have e2 : cmdT D = (rdList ks_str (st_cmd_1 ⟨D, false⟩)).2 := by unfold cmdT cmdS; rw [if_pos HE.out.symm]
      have e3 : cmdI D = (rdList ks_int (st_cmd_2 ⟨D, false⟩)).2 := by unfold cmdI cmdS; rw [if_pos HE.out.symm]
      refine ⟨((hbel.setCell (p := ⟨w.heap.size, 0, none⟩) (Nat.le_refl _) _).setCell (p := ⟨w.heap.size, 1, none⟩) (Nat.le_refl _) _).setCell (p := ⟨w.heap.size, 2, none⟩) (Nat.le_refl _) _, .slice A1 (rdList ks_str (st_cmd_1 ⟨D, false⟩)).2.length c1, .slice A2 (rdList ks_int (st_cmd_2 ⟨D, false⟩)).2.length c2, ?_, ?_, ?_⟩
      · rw [e1, show endN (cmdS D) = 0 from HE.out.symm]
      · rw [e2]; exact hne o1 _ _ _
      · rw [e3]; exact hne o2 _ _ _
    · have h0b : (en != 0) = true := by simpa using h0
      go_wp2
      refine bodyPost_ret (v := .tuple #[.agg #[.int .i64 0, .slice none 0 0, .slice none 0 0], .int .i64 en]) (by simp [results, Try.results9, go_sem, r0, r1, r2]) rfl ?_
      obtain ⟨q3, o1, o2⟩ := HQ.out
      have hbel : Below w.heap.size w w2 := ((Fr.of_below (own := fun i => i = w.heap.size + 1 ∨ i = w.heap.size + 1 + 1) HG.out.2.2.2).trans q3 fun i hi => .inl hi).below fun i hi => by rcases hi with e | e <;> omega
      have hn : ¬endN (cmdS D) = 0 := fun e => h0 (by rw [HE.out]; exact e)
      have e1 : cmdN D = 0 := by unfold cmdN; rw [if_neg hn]
      have e2 : cmdT D = [] := by unfold cmdT; rw [if_neg hn]
      have e3 : cmdI D = [] := by unfold cmdI; rw [if_neg hn]
      refine ⟨((hbel.setCell (p := ⟨w.heap.size, 0, none⟩) (Nat.le_refl _) _).setCell (p := ⟨w.heap.size, 1, none⟩) (Nat.le_refl _) _).setCell (p := ⟨w.heap.size, 2, none⟩) (Nat.le_refl _) _, .slice none 0 0, .slice none 0 0, ?_, ?_, ?_⟩
      · rw [e1, HE.out]; rfl
      · rw [e2]; exact World.ownsRow_nil _ _ _ _
      · rw [e3]; exact World.ownsRow_nil _ _ _ _
end Go.Proofs.Ytgdoodeibcfcjaa.Wire
