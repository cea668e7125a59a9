/- Of one claim's parts: Log, LogT, LogR, LogA, LogO, LogF, LogQ. -/
import Derived.Test.YtdjcaogffppdhaaLogMed
import Derived.Test.YtdjcaogffppdhaaApp
import Derived.Test.YtdjcaogffppdhaaFramesJ
import Derived.Deep.QuietTactic
import Derived.BigQuiet
import Derived.Lib.ItoaWalk
import Derived.Deep.RegionHeld3
import Derived.Deep.RegionWith
import Derived.Deep.DrawnRows
import Derived.Deep.DeepCutAuto
import Derived.Deep.CutBlock
set_option linter.unusedVariables false
set_option linter.unusedSimpArgs false
namespace Go.Proofs.Ytdjcaogffppdhaa.Log
open Go.RowKit Go.ChangeMaps Go.Proofs.Ytdjcaogffppdhaa.IMap Go.Proofs.Ytdjcaogffppdhaa.AtX Go.Proofs.Ytdjcaogffppdhaa.App Go.Proofs.Ytdjcaogffppdhaa.SumPure
open Go.Proofs.Ytdjcaogffppdhaa.Med (IsMed Med Ranged IsSize IsFiles Filed)
open Go.Proofs.Ytdjcaogffppdhaa.FramesPure
open Go.Proofs.YtdjcaogffppdhaaW.PrintWords Go.Proofs.YtdjcaogffppdhaaW.PrintLast Go.Proofs.YtdjcaogffppdhaaW.PrintMore
/-! ### Lists of numbers and strings in memory -/
/-- v is a slice that holds the strings l. -/
def SRow (w : World) (v : Value) (l : List ByteArray) : Prop := ∃ A c, v = .slice A l.length c ∧ l.length ≤ c ∧ c ≤ 9223372036854775807 ∧ (0 < l.length → ∃ ad, A = some ad ∧ ad.block < w.heap.size ∧ ∀ j, j < l.length → w.cell? (ad.add j) = some (.string (l.getD j ⟨#[]⟩)))
theorem SRow.keep {w w' : World} {v : Value} {l : List ByteArray} (h : SRow w v l) (hs : w.heap.size ≤ w'.heap.size) (k : ∀ g, v.ownBlock = some g → w'.heap[g]? = w.heap[g]?) : SRow w' v l := by
  obtain ⟨A, c, rfl, h1, h2, h3⟩ := h
  refine ⟨A, c, rfl, h1, h2, fun hl => ?_⟩
  obtain ⟨ad, rfl, hb, hc⟩ := h3 hl
  refine ⟨ad, rfl, by omega, fun j hj => (World.cell?_of_block ?_).trans (hc j hj)⟩
  rw [block_of_add]
  exact k ad.block rfl
theorem SRow.lt {w : World} {v : Value} {l : List ByteArray} (h : SRow w v l) (hl : 0 < l.length) : ∀ g, v.ownBlock = some g → g < w.heap.size := by
  obtain ⟨A, c, rfl, h1, h2, h3⟩ := h
  obtain ⟨ad, rfl, hb, hc⟩ := h3 hl
  intro g hg
  have : ad.block = g := by simpa [Value.ownBlock] using hg
  omega
theorem SRow.below {w w' : World} {v : Value} {l : List ByteArray} (h : SRow w v l) (k : Below w.heap.size w w') : SRow w' v l := by
  obtain ⟨A, c, rfl, h1, h2, h3⟩ := h
  refine ⟨A, c, rfl, h1, h2, fun hl => ?_⟩
  obtain ⟨ad, rfl, hb, hc⟩ := h3 hl
  exact ⟨ad, rfl, Nat.lt_of_lt_of_le hb k.size, fun j hj => (k.cell (p := ad.add j) (by rw [block_of_add]; exact hb)).trans (hc j hj)⟩
theorem SRow.of_row {w : World} {B : Nat} {e : TypeId} {v : Value} {l : List ByteArray} (h : w.ownsRow B e 1 v l.length (l.map Value.string)) : SRow w v l := by
  rcases h.2 with ⟨e, h0⟩ | ⟨g, cap, cur, e, hb, hg, h1, h2, h3, h4⟩
  · exact ⟨none, 0, by rw [e, h0], by omega, by omega, fun h => by omega⟩
  · refine ⟨some ⟨g, 0, none⟩, cap, e, h1, h2, fun hl => ⟨_, rfl, (Array.getElem?_eq_some_iff.1 hg).1, fun j hj => ?_⟩⟩
    exact h.cells (g := g) (by rw [e]; rfl) j _ (by simp [List.getD_eq_getElem?_getD, hj])
/-! ### frames -/
theorem lay_calls (n : Int) (a : ByteArray) (ha : a.size ≤ 1000000000000000) (w : World) : Calls Try.prog 48 #[.int .i64 n, .string a] w fun e w' => ∃ v, e = .returned (.tuple #[v, .int .i64 (layP n a.data.toList).2]) ∧ SRow w' v (layP n a.data.toList).1 ∧ (∀ g, v.ownBlock = some g → w.heap.size ≤ g ∧ g < w'.heap.size) ∧ Below w.heap.size w w' := by
  refine (frames_Lay.calls 20 n a _ _ w (Lay_at n a ha (Nat.le_refl _))).mono ?_
  rintro e w' ⟨v, rfl, hR, hb⟩
  obtain ⟨A, c, hv, hc, hC⟩ := Kd.R_reads hR
  have hr := Kd.reads_of_C (d := (⟨#[]⟩ : ByteArray)) hC
  obtain ⟨inner, ho⟩ := Kd.R_own hR
  refine ⟨v, rfl, ⟨A, c, hv, hc, ?_, fun hl => ?_⟩, fun g hg => ho.lt g hg, hb⟩
  · rcases ho.2 with ⟨e, _⟩ | ⟨g, cap, cur, e, _, _, _, h2, _⟩
    · rw [hv] at e
      injection e with _ _ e3
      omega
    · rw [hv] at e
      injection e with _ _ e3
      rw [e3]; exact h2
  · obtain ⟨ad, rfl, hcell⟩ := hr.2.2 hl
    exact ⟨ad, rfl, (ho.lt ad.block (by rw [hv]; rfl)).2, hcell⟩
theorem join_calls {w : World} {v : Value} {l : List ByteArray} (h : SRow w v l) (hl : l.length ≤ 1000000000000000) : Calls Try.prog 47 #[v] w fun e w' => e = .returned (.tuple #[.int .i64 (joinP l).1, .string (joinP l).2.1, .int .i64 (joinP l).2.2.1, .int .i64 (joinP l).2.2.2]) ∧ Below w.heap.size w w' := by
  obtain ⟨A, c, rfl, h1, h2, h3⟩ := h
  refine frames_Join.calls 40 A c l _ _ _ _ w (Kd.C_of_reads (d := (⟨#[]⟩ : ByteArray)) ⟨rfl, by omega, fun hn => ?_⟩) h1 (Join_at l hl (Nat.le_refl _))
  obtain ⟨ad, e, _, hc⟩ := h3 hn
  exact ⟨ad, e, hc⟩
/-! ### The log -/
structure Lg where
  file : Int
  at' : Int
  next : Int
  lasts : Int → Option Int
noncomputable def RI : Value → Option (D0 × List MemPlace) := plainElem Try.prog 3
theorem RI_mk {z : Int} (h : (Lit.int .i64 z).wf = true) : RI (.int .i64 z) = some (.lit (.int .i64 z), []) := plainElem_int Try.underlying3 h
theorem RI_inv {v : Value} {z : Int} {ps : List MemPlace} (e : RI v = some (.lit (.int .i64 z), ps)) : v = .int .i64 z := by
  unfold RI at e
  obtain ⟨c, rfl, hc, _⟩ := plainElem_int_inv Try.underlying3 e
  simp only [Prod.mk.injEq, DataW.lit.injEq, Lit.int.injEq, true_and] at hc
  rw [hc.1]
noncomputable def FI (l : Int → Option Int) : Int → Option D0 := fun f => (l f).map fun z => .lit (.int .i64 z)
/-- A log behind a media: at bl, its map of last numbers at g; X: other blocks. -/
structure LAt (w0 : World) (X : Nat → Prop) (bm bl g : Nat) (M : Med) (L : Lg) (n : Nat) (w : World) : Prop where
  med : AtX w0 (fun i => X i ∨ i = bl ∨ i = g) bm M n w
  hL : w.heap[bl]? = some (.cells #[.pointer (some ⟨bm, 0, none⟩), .int .i64 L.file, .int .i64 L.at', .int .i64 L.next, .map (some g)] 84 (0, 0))
  hg : IMap w Try.prog 3 RI g n (FI L.lasts)
  lb : w0.heap.size ≤ bl
  lg : w0.heap.size ≤ g
  xb : ¬X bl
  xg : ¬X g
section
variable {w0 w : World} {X : Nat → Prop} {bm bl g n : Nat} {M : Med} {L : Lg}
theorem LAt.below (h : LAt w0 X bm bl g M L n w) : Below w0.heap.size w0 w := h.med.below
theorem LAt.lt (h : LAt w0 X bm bl g M L n w) : ∀ i, X i → i < w.heap.size := fun i hi => h.med.lt i (.inl hi)
theorem LAt.ne (h : LAt w0 X bm bl g M L n w) : bl ≠ g := by
  intro e
  obtain ⟨es, c, hm⟩ := h.hg.is
  rw [← e, h.hL] at hm; cases hm
theorem LAt.cells (h : LAt w0 X bm bl g M L n w) : w.cell? ⟨bl, 0, none⟩ = some (.pointer (some ⟨bm, 0, none⟩)) ∧ w.cell? ⟨bl, 1, none⟩ = some (.int .i64 L.file) ∧ w.cell? ⟨bl, 2, none⟩ = some (.int .i64 L.at') ∧ w.cell? ⟨bl, 3, none⟩ = some (.int .i64 L.next) ∧ w.cell? ⟨bl, 4, none⟩ = some (.map (some g)) ∧ ∀ o, w.frozen? ⟨bl, o, none⟩ = false := by
  have := h.hL
  refine ⟨?_, ?_, ?_, ?_, ?_, fun o => ?_⟩ <;> simp [World.cell?, World.frozen?, this]
theorem LAt.after (h : LAt w0 X bm bl g M L n w) {w' : World} (k : Below w.heap.size w w') : LAt w0 X bm bl g M L n w' :=
  ⟨h.med.after k, (k.block bl (h.med.lt bl (.inr (.inl rfl)))).trans h.hL, h.hg.same (k.block g (h.med.lt g (.inr (.inr rfl)))), h.lb, h.lg, h.xb, h.xg⟩
theorem LAt.drawn (h : LAt w0 X bm bl g M L n w) (q : Nat) : LAt w0 X bm bl g M L n (w.drewN q) := h.after (w' := w.drewN q) ⟨rfl, rfl, rfl, Nat.le_refl _, fun _ _ => rfl⟩
theorem LAt.drew (h : LAt w0 X bm bl g M L n w) : LAt w0 X bm bl g M L n w.drew := h.after (w' := w.drew) ⟨rfl, rfl, rfl, Nat.le_refl _, fun _ _ => rfl⟩
theorem LAt.mono (h : LAt w0 X bm bl g M L n w) {n' : Nat} (k : n ≤ n') : LAt w0 X bm bl g M L n' w := ⟨h.med.mono k, h.hL, h.hg.mono k, h.lb, h.lg, h.xb, h.xg⟩
/-- The media turns. -/
theorem LAt.turn (h : LAt w0 X bm bl g M L n w) {M' : Med} {n' : Nat} {w' : World} (k : AtX w0 (fun i => X i ∨ i = bl ∨ i = g) bm M' n' w') (hs : Same (fun i => X i ∨ i = bl ∨ i = g) w w') (hn : n ≤ n') : LAt w0 X bm bl g M' L n' w' :=
  ⟨k, (hs bl (.inr (.inl rfl))).trans h.hL, (h.hg.same (hs g (.inr (.inr rfl)))).mono hn, h.lb, h.lg, h.xb, h.xg⟩
/-- The log's own cells turn. -/
theorem LAt.set (h : LAt w0 X bm bl g M L n w) (i : Nat) (v : Value) {L' : Lg} (hl : L'.lasts = L.lasts)
    (he : (#[Value.pointer (some ⟨bm, 0, none⟩), .int .i64 L.file, .int .i64 L.at', .int .i64 L.next, .map (some g)] : Array Value).setIfInBounds i v = #[.pointer (some ⟨bm, 0, none⟩), .int .i64 L'.file, .int .i64 L'.at', .int .i64 L'.next, .map (some g)]) :
    LAt w0 X bm bl g M L' n (w.setCell ⟨bl, i, none⟩ v) := by
  refine ⟨h.med.beside (w' := w.setCell ⟨bl, i, none⟩ v) ⟨rfl, rfl, rfl, by simp, fun j _ hj => Med.heap_set_ne (fun e => hj (.inr (.inl e))) i v⟩ _ (fun j hj => ⟨.inl hj, by have := h.med.lt j hj; simpa using this⟩) (h.below.setCell (p := ⟨bl, i, none⟩) h.lb v), ?_, ?_, h.lb, h.lg, h.xb, h.xg⟩
  · rw [Med.heap_set h.hL i v, he]
  · rw [hl]; exact h.hg.same (Med.heap_set_ne (fun e => h.ne e.symm) i v)
/-- A segment's last number is noted. -/
theorem LAt.note (h : LAt w0 X bm bl g M L n w) (hn : n < 4611686018427387904) {f z : Int} (hf : (Lit.int .i64 f).wf = true) (hz : (Lit.int .i64 z).wf = true) :
    ∃ w', (Instr.mapUpdate 82 (.map (some g)) (.int .i64 f) (.int .i64 z)).run Try.prog w = .ok () w' ∧ LAt w0 X bm bl g M { L with lasts := fun j => if j = f then some z else L.lasts j } (n + 1) w' ∧ Same X w w' := by
  have hml : maxLen = 9223372036854775807 := rfl
  obtain ⟨w', e, i', gr⟩ := h.hg.update Try.underlying3 Try.underlying82 (by omega) f (Med.wf_key hf) (RI_mk hz)
  refine ⟨w', e, ⟨(h.med.beside (Med.Frame.of_grown gr (.inr (.inr rfl))) _ (fun j hj => ⟨.inl hj, Nat.lt_of_lt_of_le (h.med.lt j hj) gr.size⟩) ?_).mono (by omega), (gr.block bl (h.med.lt bl (.inr (.inl rfl))) (fun e => h.ne (by simpa using e))).trans h.hL, ?_, h.lb, h.lg, h.xb, h.xg⟩, fun j hj => gr.block j (h.lt j hj) (fun e => h.xg (by have : j = g := (by simpa using e); rw [← this]; exact hj))⟩
  · exact h.below.grown gr h.below.size (fun j hj => by have : g = j := by simpa using hj
                                                        have := h.lg; omega)
  · obtain ⟨D, o, rd⟩ := i'
    refine ⟨D, o, rd.ext fun j => ?_⟩
    unfold FI
    by_cases hj : j = f
    · simp [hj]
    · simp [hj]
theorem zero_int (w : World) : (zeroValue 3).run Try.prog w = .ok (.int .i64 0) w := by kernel_rfl
theorem LAt.look (h : LAt w0 X bm bl g M L n w) {f : Int} (hf : (Lit.int .i64 f).wf = true) : (Instr.lookup 82 (.map (some g)) (.int .i64 f) true).run Try.prog w = .ok (.tuple #[.int .i64 ((L.lasts f).getD 0), .bool (L.lasts f).isSome]) w := by
  obtain ⟨v, ps, e, c⟩ := h.hg.look_ok Try.underlying3 Try.underlying82 (zero_int w) (zd := .lit (.int .i64 0)) (zp := []) (RI_mk (by decide)) f (Med.wf_key hf)
  have hv : v = .int .i64 ((L.lasts f).getD 0) := by
    unfold FI at c
    cases hW : L.lasts f with
    | none => rw [hW] at c; exact RI_inv c
    | some s => rw [hW] at c; exact RI_inv c
  rw [e, hv]
  unfold FI
  simp
/-- Other blocks come or go. -/
theorem LAt.more (h : LAt w0 X bm bl g M L n w) {w' : World} (k : Below w.heap.size w w') (Y : Nat → Prop) (hY : ∀ i, Y i → (X i ∨ w.heap.size ≤ i) ∧ i < w'.heap.size) : LAt w0 Y bm bl g M L n w' := by
  have hbl := h.med.lt bl (.inr (.inl rfl))
  have hgl := h.med.lt g (.inr (.inr rfl))
  refine ⟨h.med.more k _ fun i hi => ?_, (k.block bl hbl).trans h.hL, h.hg.same (k.block g hgl), h.lb, h.lg, fun hy => ?_, fun hy => ?_⟩
  · rcases hi with hi | rfl | rfl
    · exact ⟨(hY i hi).1.imp (fun h => .inl h) id, (hY i hi).2⟩
    · exact ⟨.inl (.inr (.inl rfl)), Nat.lt_of_lt_of_le hbl k.size⟩
    · exact ⟨.inl (.inr (.inr rfl)), Nat.lt_of_lt_of_le hgl k.size⟩
  · rcases (hY bl hy).1 with h1 | h1
    · exact h.xb h1
    · omega
  · rcases (hY g hy).1 with h1 | h1
    · exact h.xg h1
    · omega
theorem LAt.narrow (h : LAt w0 X bm bl g M L n w) (Y : Nat → Prop) (hY : ∀ i, Y i → X i) : LAt w0 Y bm bl g M L n w := h.more (Below.refl _ _) Y fun i hi => ⟨.inl (hY i hi), h.lt i (hY i hi)⟩
end
set_option maxHeartbeats 4000000 in
set_option maxRecDepth 100000 in
theorem next_nil (w : World) : Calls Try.prog 36 #[.pointer none] w fun e w' => e = .returned (.int .i64 0) ∧ w = w' := by
  go_enter Try.func36, Try.ntmps36
  go_wp2
  go_ret
  exact ⟨rfl, rfl⟩
set_option maxHeartbeats 4000000 in
set_option maxRecDepth 100000 in
theorem next_calls {w0 w : World} {X : Nat → Prop} {bm bl g n : Nat} {M : Med} {L : Lg} (h : LAt w0 X bm bl g M L n w) : Calls Try.prog 36 #[.pointer (some ⟨bl, 0, none⟩)] w fun e w' => e = .returned (.int .i64 L.next) ∧ w = w' := by
  obtain ⟨c0, c1, c2, c3, c4, cf⟩ := h.cells
  clear h
  go_enter Try.func36, Try.ntmps36
  go_wp2
  go_ret
  exact ⟨rfl, rfl⟩
/-! ### segments -/
def segsOf (l : List Int) : List Int := l.filter fun f => decide (2 ≤ f)
theorem files_le {M : Med} (hfd : Filed M) {l : List Int} (h : IsFiles M l) : l.length ≤ 1048576 := by
  have key : ∀ (l : List Int) (a : Int), 0 ≤ a → a ≤ 1048576 → l.Pairwise (· < ·) → (∀ f ∈ l, a ≤ f ∧ f < 1048576) → (l.length : Int) ≤ 1048576 - a := by
    intro l
    induction l with
    | nil => intro a _ h _ _; simp; omega
    | cons x l ih =>
      intro a h0 h1 hp hf
      obtain ⟨p1, p2⟩ := List.pairwise_cons.1 hp
      have hx := hf x List.mem_cons_self
      have := ih (x + 1) (by omega) (by omega) p2 (fun f hm => ⟨by have := p1 f hm; omega, (hf f (List.mem_cons_of_mem _ hm)).2⟩)
      simp only [List.length_cons]
      omega
  have := key l 0 (by omega) (by omega) h.up (fun f hf => hfd f ((h.mem f).1 hf))
  omega
theorem seg_snoc {l : List Int} {i : Nat} (hi : i < l.length) : segsOf (l.take (i + 1)) = segsOf (l.take i) ++ if 2 ≤ l.getD i 0 then [l.getD i 0] else [] := by
  unfold segsOf
  rw [List.take_succ_eq_append_getElem hi, List.filter_append, List.filter_cons]
  have : l.getD i 0 = l[i] := by simp [List.getD_eq_getElem?_getD, hi]
  rw [this]
  by_cases h : 2 ≤ l[i]
  · simp [h]
  · simp [h]
theorem seg_len (l : List Int) (i : Nat) : (segsOf (l.take i)).length ≤ l.length := by
  unfold segsOf
  have := List.length_filter_le (fun f => decide (2 ≤ f)) (l.take i)
  rw [List.length_take] at this
  omega
theorem intInfo : (Try.prog.info? 3).map (fun i => (i.zero, i.size, i.bytes)) = some (some (.int .i64 0), 1, 8) := by kernel_rfl
theorem infoParts {z : Option Value} {s b : Nat} {T : TypeId} (h : (Try.prog.info? T).map (fun i => (i.zero, i.size, i.bytes)) = some (z, s, b)) : ∃ i, Try.prog.info? T = some i ∧ i.zero = z ∧ i.size = s ∧ i.bytes = b := by
  cases hi : Try.prog.info? T with
  | none => rw [hi] at h; cases h
  | some i =>
    rw [hi] at h
    simp only [Option.map_some, Option.some.injEq, Prod.mk.injEq] at h
    exact ⟨i, rfl, h.1, h.2.1, h.2.2⟩
set_option maxHeartbeats 16000000 in
set_option maxRecDepth 100000 in
theorem seg_calls {w : World} {own : Nat → Prop} {b : Nat} {M : Med} {n : Nat} (h : IsMed w own b M n) (hfd : Filed M) (hn : n ≤ 10000000000000) :
    Calls Try.prog 45 #[.pointer (some ⟨b, 0, none⟩)] w fun e w' => ∃ (v : Value) (l : List Int), e = .returned v ∧ IsFiles M l ∧ w'.ownsRow w.heap.size 3 1 v (segsOf l).length ((segsOf l).map (Value.int .i64)) ∧ Below w.heap.size w w' := by
  have hc := Med.files_calls h hfd hn
  clear h
  obtain ⟨i0, hi0, hz0, hz1, hz2⟩ := infoParts intInfo
  go_enter Try.func45, Try.ntmps45
  go_wp2_with (fail)
  refine hc.mono ?_
  rintro e w1 ⟨v, l, rfl, hl, hr, hb⟩
  have hll := files_le hfd hl
  have HL := Aside0.mk hl
  obtain ⟨A, c, rfl, hrd⟩ : ∃ A c, v = .slice A l.length c ∧ Lst.Lst w1 v l := by
    rcases hr.2 with ⟨e, e0⟩ | ⟨g, cap, cur, e, _⟩
    · exact ⟨none, 0, by rw [e, e0], Lst.Lst.of_row hr⟩
    · exact ⟨_, _, e, Lst.Lst.of_row hr⟩
  have HR := Aside0.mk hrd
  have HB := Aside0.mk hb
  clear hc hl hr hrd hb hfd
  go_wp2_with (fail)
  go_loopw [3, 9] (fun v3 v9 wr => ∃ i : Nat, i ≤ l.length ∧ v9 = .int .i64 i ∧ Aside0 (wr.ownsRow w1.heap.size 3 1 v3 (segsOf (l.take i)).length ((segsOf (l.take i)).map (Value.int .i64))) ∧ Aside0 (Below w1.heap.size w1 wr)) (fun _ v9 _ => l.length - (intOf v9).toNat)
  case atStart => exact ⟨0, by omega, rfl, ⟨World.ownsRow_nil _ _ _ _⟩, ⟨Below.refl _ _⟩⟩
  case round =>
    obtain ⟨i, hi, rfl, HO, HW⟩ := hrel
    by_cases hlt : i < l.length
    · obtain ⟨g, c', hg, hcell⟩ : ∃ g c', A = some ⟨g, 0, none⟩ ∧ wr.cell? ⟨g, i, none⟩ = some (.int .i64 (l.getD i 0)) := by
        rcases HR.out with ⟨e, e0⟩ | ⟨g, c', e, hg, _, _, hcell⟩
        · rw [e0] at hlt; simp at hlt
        · injection e with e1 e2 e3
          exact ⟨g, 0, e1, (HW.out.cell (p := ⟨g, i, none⟩) hg).trans (hcell i hlt)⟩
      subst hg
      have hsn := seg_snoc hlt
      have hsl := seg_len l i
      have hbs := HW.out.size
      generalize l.getD i 0 = z at *
      by_cases hz : 2 ≤ z
      · rw [if_pos hz] at hsn
        have HSN := Aside0.mk hsn
        clear hsn
        generalize segsOf (l.take i) = K at *
        go_wp2_with (at_builtin; refine wpList_append_any _ rfl _ _ _ rfl w1.heap.size 3 i0 _ 8 Try.underlying41 hi0 hz0 hz1 hz2 rfl _ K.length (K.map (Value.int .i64)) rfl (HO.out.alloc _) (wr.heap.size + 1) (some ⟨wr.heap.size, 0, none⟩) 1 1 [.int .i64 z] rfl ⟨rfl, fun _ => ⟨_, rfl, by simp, World.news_of_block (heap_alloc_new wr _)⟩⟩ (by simp; rfl) (by unfold maxLen; omega) (by omega) (by simp; omega) ?_; intro v2 w2 hown2 hg2 hat2; have HB2 : Aside0 (Below w1.heap.size w1 w2) := ⟨(HW.out.alloc hbs _).grown hg2 (by simp; omega) (fun j hj => (HO.out.lt j hj).1)⟩; have HO2 : Aside0 (w2.ownsRow w1.heap.size 3 1 v2 (K ++ [z]).length ((K ++ [z]).map (Value.int .i64))) := ⟨by rw [List.map_append, List.length_append]; exact hown2⟩; clear hown2 hg2 hat2)
        go_roundw
        case rel => exact ⟨i + 1, by omega, by go_num, ⟨by rw [HSN.out]; exact HO2.out⟩, HB2⟩
        case measure => simp [intOf]; omega
      · rw [if_neg hz, List.append_nil] at hsn
        have HSN := Aside0.mk hsn
        clear hsn
        go_wp2
        go_roundw
        case rel => exact ⟨i + 1, by omega, by go_num, ⟨by rw [HSN.out]; exact HO.out⟩, HW⟩
        case measure => simp [intOf]; omega
    · obtain rfl : i = l.length := by omega
      rw [List.take_length] at HO
      go_wp2
      go_ret
      exact ⟨_, l, rfl, HL.out, ownsRow_base_a HO.out HB.out.size, HB.out.trans (HW.out.mono HB.out.size)⟩
end Go.Proofs.Ytdjcaogffppdhaa.Log
namespace Go.Proofs.Ytdjcaogffppdhaa.Log
open Go.RowKit Go.ChangeMaps Go.Proofs.Ytdjcaogffppdhaa.IMap Go.Proofs.Ytdjcaogffppdhaa.AtX Go.Proofs.Ytdjcaogffppdhaa.App Go.Proofs.Ytdjcaogffppdhaa.SumPure Go.Proofs.Ytdjcaogffppdhaa.Lst
open Go.Proofs.Ytdjcaogffppdhaa.Med (IsMed Med Ranged IsSize IsFiles Filed)
open Go.Proofs.Ytdjcaogffppdhaa.FramesPure
open Go.Proofs.YtdjcaogffppdhaaW.PrintWords Go.Proofs.YtdjcaogffppdhaaW.PrintLast Go.Proofs.YtdjcaogffppdhaaW.PrintMore
section
variable {w0 w : World} {X : Nat → Prop} {bm bl g n : Nat} {M : Med} {L : Lg}
theorem LAt.seg (h : LAt w0 X bm bl g M L n w) (hfd : Filed M) (hn : n ≤ 10000000000000) {l : List Int} (hl : IsFiles M l) : Calls Try.prog 45 #[.pointer (some ⟨bm, 0, none⟩)] w fun e w' => ∃ v, e = .returned v ∧ Lst w' v (segsOf l) ∧ LAt w0 (fun i => X i ∨ v.ownBlock = some i) bm bl g M L n w' ∧ Below w.heap.size w w' := by
  obtain ⟨own, hm, ho⟩ := h.med.med
  refine (seg_calls hm hfd hn).mono ?_
  rintro e w' ⟨v, l', rfl, hl', hr, hb⟩
  obtain rfl := hl'.same hl
  refine ⟨v, rfl, Lst.of_row hr, h.more hb _ fun i hi => ?_, hb⟩
  rcases hi with hi | hi
  · exact ⟨.inl hi, Nat.lt_of_lt_of_le (h.lt i hi) hb.size⟩
  · exact ⟨.inr (hr.lt i hi).1, (hr.lt i hi).2⟩
theorem LAt.remove (h : LAt w0 X bm bl g M L n w) (f : Int) (hn : n < 4611686018427380000) : Calls Try.prog 19 #[.pointer (some ⟨bm, 0, none⟩), .int .i64 f] w fun e w' => e = .returned (.int .i64 (M.remove f).2) ∧ LAt w0 X bm bl g (M.remove f).1 L (n + 3) w' ∧ Same X w w' :=
  (h.med.remove_calls f hn).mono fun e w' ⟨a, c, d⟩ => ⟨a, h.turn c d (by omega), fun i hi => d i (.inl hi)⟩
theorem LAt.write (h : LAt w0 X bm bl g M L n w) (f i : Int) (s : ByteArray) (hs : s.size ≤ 9223372036854775807) (hn : n < 4611686018427380000) : Calls Try.prog 12 #[.pointer (some ⟨bm, 0, none⟩), .int .i64 f, .int .i64 i, .string s] w fun e w' => e = .returned (.int .i64 (M.write f i s).2) ∧ LAt w0 X bm bl g (M.write f i s).1 L (n + 3) w' ∧ Same X w w' :=
  (h.med.write_calls f i s hs hn).mono fun e w' ⟨a, c, d⟩ => ⟨a, h.turn c d (by omega), fun i hi => d i (.inl hi)⟩
theorem LAt.size (h : LAt w0 X bm bl g M L n w) (hok : Ranged M) (f : Int) (hf : (Lit.int .i64 f).wf = true) : Calls Try.prog 15 #[.pointer (some ⟨bm, 0, none⟩), .int .i64 f] w fun e w' => ∃ r, e = .returned (.int .i64 r) ∧ IsSize M f r ∧ LAt w0 X bm bl g M L n w' ∧ Same X w w' :=
  (h.med.size_calls hok f hf).mono fun e w' ⟨r, a, b, c, d⟩ => ⟨r, a, b, h.turn c d (Nat.le_refl _), fun i hi => d i (.inl hi)⟩
theorem LAt.arm (h : LAt w0 X bm bl g M L n w) (x : Int) (hx : x ≤ 9223372036854775807) : Calls Try.prog 11 #[.pointer (some ⟨bm, 0, none⟩), .int .i64 x] w fun e w' => e = .returned (.tuple #[]) ∧ LAt w0 X bm bl g (M.arm x) L n w' ∧ Same X w w' :=
  (h.med.arm_calls x hx).mono fun e w' ⟨a, c, d⟩ => ⟨a, h.turn c d (Nat.le_refl _), fun i hi => d i (.inl hi)⟩
theorem LAt.on (h : LAt w0 X bm bl g M L n w) : Calls Try.prog 24 #[.pointer (some ⟨bm, 0, none⟩)] w fun e w' => e = .returned (.tuple #[]) ∧ LAt w0 X bm bl g M.on L n w' ∧ Same X w w' :=
  h.med.on_calls.mono fun e w' ⟨a, c, d⟩ => ⟨a, h.turn c d (Nat.le_refl _), fun i hi => d i (.inl hi)⟩
end
theorem Lst.at_ {w : World} {v : Value} {K : List Int} (h : Lst w v K) {i : Nat} (hi : i < K.length) : ∃ ad c, v = .slice (some ⟨ad, 0, none⟩) K.length c ∧ K.length ≤ c ∧ w.cell? ⟨ad, i, none⟩ = some (.int .i64 (K.getD i 0)) := by
  rcases h with ⟨_, e⟩ | ⟨ad, c, e, _, h1, _, h3⟩
  · rw [e] at hi; simp at hi
  · exact ⟨ad, c, e, h1, h3 i hi⟩
theorem Lst.shape {w : World} {v : Value} {K : List Int} (h : Lst w v K) : ∃ A c, v = .slice A K.length c := by
  rcases h with ⟨e, e0⟩ | ⟨ad, c, e, _⟩
  · exact ⟨none, 0, by rw [e, e0]; rfl⟩
  · exact ⟨_, _, e⟩
/-! ### Sectors -/
/-- The sectors of the segments ahead of the tail. -/
def sumS (file : Int) (sz : Int → Int) (K : List Int) : Int := K.foldl (fun a f => if f < file then a + sz f else a) 0
theorem sumS_snoc (file : Int) (sz : Int → Int) {K : List Int} {i : Nat} (hi : i < K.length) : sumS file sz (K.take (i + 1)) = if K.getD i 0 < file then sumS file sz (K.take i) + sz (K.getD i 0) else sumS file sz (K.take i) := by
  unfold sumS
  have : K.getD i 0 = K[i] := by simp [List.getD_eq_getElem?_getD, hi]
  rw [List.take_succ_eq_append_getElem hi, List.foldl_append, this]
  rfl
theorem sumS_bd (file : Int) (sz : Int → Int) (K : List Int) (h : ∀ f ∈ K, f < file → 0 ≤ sz f ∧ sz f ≤ 65536) : ∀ i, 0 ≤ sumS file sz (K.take i) ∧ sumS file sz (K.take i) ≤ 65536 * i := by
  intro i
  induction i with
  | zero => simp [sumS]
  | succ i ih =>
    rcases Nat.lt_or_ge i K.length with hi | hi
    · rw [sumS_snoc file sz hi]
      have hm : K.getD i 0 ∈ K := by
        rw [show K.getD i 0 = K[i] from by simp [List.getD_eq_getElem?_getD, hi]]
        exact List.getElem_mem hi
      have := h _ hm
      split
      · rename_i hf
        have := this hf
        omega
      · omega
    · rw [List.take_of_length_le (by omega)]
      rw [List.take_of_length_le hi] at ih
      omega
set_option maxHeartbeats 4000000 in
set_option maxRecDepth 100000 in
theorem sectors_nil (w : World) : Calls Try.prog 35 #[.pointer none] w fun e w' => e = .returned (.int .i64 0) ∧ w = w' := by
  go_enter Try.func35, Try.ntmps35
  go_wp2
  go_ret
  exact ⟨rfl, rfl⟩
set_option maxHeartbeats 16000000 in
set_option maxRecDepth 100000 in
theorem sectors_calls {w0 w : World} {X : Nat → Prop} {bm bl g n : Nat} {M : Med} {L : Lg} (h : LAt w0 X bm bl g M L n w) (hfd : Filed M) (hrg : Ranged M) (hn : n ≤ 10000000000000) {l : List Int} (hl : IsFiles M l) (sz : Int → Int) (hsz : ∀ f ∈ segsOf l, f < L.file → IsSize M f (sz f)) (ha0 : 0 ≤ L.at') (ha1 : L.at' ≤ 1000) :
    Calls Try.prog 35 #[.pointer (some ⟨bl, 0, none⟩)] w fun e w' => e = .returned (.int .i64 (L.at' + sumS L.file sz (segsOf l))) ∧ LAt w0 X bm bl g M L n w' ∧ Same X w w' := by
  have hll := files_le hfd hl
  have hKl : (segsOf l).length ≤ 1048576 := by have := seg_len l l.length; rw [List.take_length] at this; omega
  have hKm : ∀ f ∈ segsOf l, 0 ≤ f ∧ f < 1048576 := fun f hf => hfd f ((hl.mem f).1 (List.mem_filter.1 hf).1)
  have hbd := sumS_bd L.file sz (segsOf l) (fun f hf hlt => ⟨(hsz f hf hlt).lo, (hsz f hf hlt).hi⟩)
  have hs := h.seg hfd hn hl
  generalize segsOf l = K at *
  obtain ⟨c0, c1, c2, c3, c4, cf⟩ := h.cells
  obtain ⟨R, hR⟩ : ∃ R, R = L.at' + sumS L.file sz K := ⟨_, rfl⟩
  rw [← hR]
  have HR := Aside0.mk hR
  have HBD := Aside0.mk hbd
  have HSZ := Aside0.mk hsz
  have HKM := Aside0.mk hKm
  have H := Aside0.mk h
  clear hR hbd hsz h hl hll hKm
  go_enter Try.func35, Try.ntmps35
  go_wp2_with (fail)
  refine hs.mono ?_
  rintro e w1 ⟨v, rfl, hv, hk, hb⟩
  obtain ⟨A, c, rfl⟩ := Lst.shape hv
  have HV := Aside0.mk hv
  have HK := Aside0.mk hk
  have HB := Aside0.mk hb
  clear hs hv hk hb c0 c1 c2 c3 c4 cf
  go_wp2_with (fail)
  go_loopw [3, 18] (fun v3 v18 wr => ∃ (i : Nat) (q : Int), i ≤ K.length ∧ v18 = .int .i64 i ∧ v3 = .int .i64 q ∧ 0 ≤ q ∧ q ≤ 100000000000 ∧ Aside0 (q = L.at' + sumS L.file sz (K.take i)) ∧ Aside0 (LAt w0 (fun i => X i ∨ (Value.slice A K.length c).ownBlock = some i) bm bl g M L n wr ∧ Lst wr (.slice A K.length c) K ∧ Same X w wr)) (fun _ v18 _ => K.length - (intOf v18).toNat)
  case atStart => exact ⟨0, _, by omega, rfl, rfl, by omega, by omega, ⟨by simp [sumS]⟩, ⟨HK.out, HV.out, Same.below H.out.lt HB.out⟩⟩
  case round =>
    obtain ⟨i, q, hi, rfl, rfl, q0, q1, HQ, HW⟩ := hrel
    by_cases hlt : i < K.length
    · obtain ⟨ad, c', hv, hcc, hcell⟩ := Lst.at_ HW.out.2.1 hlt
      cases hv
      have hsn := sumS_snoc L.file sz hlt
      have hb2 := HBD.out (i + 1)
      obtain ⟨d0, d1, d2, d3, d4, df⟩ := HW.out.1.cells
      have hm : K.getD i 0 ∈ K := by
        rw [show K.getD i 0 = K[i] from by simp [List.getD_eq_getElem?_getD, hlt]]
        exact List.getElem_mem hlt
      obtain ⟨f0, f1⟩ := HKM.out _ hm
      have hss := HSZ.out _ hm
      generalize K.getD i 0 = z at *
      by_cases hz : z < L.file
      · rw [if_pos hz] at hsn
        have hss := hss hz
        have hcs := HW.out.1.size hrg z (Med.wf_small (by omega) (by omega))
        have hq : Aside0 (q + sz z = L.at' + sumS L.file sz (K.take (i + 1))) := ⟨by rw [hsn, HQ.out]; omega⟩
        have hq1 : 0 ≤ sz z := hss.lo
        have hq2 : sz z ≤ 65536 := hss.hi
        have hq3 : q + sz z ≤ 100000000000 := by have := hq.out; omega
        have hcs2 : Calls Try.prog 15 #[.pointer (some ⟨bm, 0, none⟩), .int .i64 z] wr fun e w' => e = .returned (.int .i64 (sz z)) ∧ LAt w0 (fun i => X i ∨ (Value.slice (some ⟨ad, 0, none⟩) K.length c).ownBlock = some i) bm bl g M L n w' ∧ Same (fun i => X i ∨ (Value.slice (some ⟨ad, 0, none⟩) K.length c).ownBlock = some i) wr w' :=
          hcs.mono fun e w' ⟨r, a1, a2, a3, a4⟩ => ⟨by rw [a1, (show r = sz z from by
            have k1 : r ≤ sz z := by
              rcases a2.at_ with e | ⟨s, e⟩
              · omega
              · have := hss.up _ s e; omega
            have k2 : sz z ≤ r := by
              rcases hss.at_ with e | ⟨s, e⟩
              · have := a2.lo; omega
              · have := a2.up _ s e; omega
            omega)], a3, a4⟩
        generalize sz z = y at *
        clear hss hcs hsn hb2
        go_wp2_with (fail)
        refine hcs2.mono ?_
        rintro e w2 ⟨rfl, k1, k2⟩
        have HW2 : Aside0 (LAt w0 (fun i => X i ∨ (Value.slice (some ⟨ad, 0, none⟩) K.length c).ownBlock = some i) bm bl g M L n w2 ∧ Lst w2 (.slice (some ⟨ad, 0, none⟩) K.length c) K ∧ Same X w w2) := ⟨k1, by
          rcases HW.out.2.1 with e | ⟨gg, cc, e, hg, h1, h2, h3⟩
          · exact .inl e
          · refine .inr ⟨gg, cc, e, ?_, h1, h2, fun j hj => ?_⟩
            · have : ad = gg := by injection e with e1 _ _; injection e1 with e1; injection e1
              rw [← this]
              exact k1.lt ad (.inr rfl)
            · have : ad = gg := by injection e with e1 _ _; injection e1 with e1; injection e1
              subst this
              exact (World.cell?_of_block (k2 ad (.inr rfl))).trans (h3 j hj), fun j hj => (k2 j (.inl hj)).trans (HW.out.2.2 j hj)⟩
        clear hcs2 k1 k2 d0 d1 d2 d3 d4 df hcell
        go_wp2
        go_roundw
        case rel => exact ⟨i + 1, q + y, by omega, by go_num, rfl, by omega, by omega, hq, HW2⟩
        case measure => simp [intOf]; omega
      · rw [if_neg hz] at hsn
        have hq : Aside0 (q = L.at' + sumS L.file sz (K.take (i + 1))) := ⟨by rw [hsn, HQ.out]⟩
        clear hss hsn hb2
        go_wp2
        go_roundw
        case rel => exact ⟨i + 1, q, by omega, by go_num, rfl, by omega, by omega, hq, HW⟩
        case measure => simp [intOf]; omega
    · obtain rfl : i = K.length := by omega
      have e : R = q := by rw [HR.out, HQ.out, List.take_length]
      subst e
      go_wp2
      go_ret
      exact ⟨rfl, HW.out.1.narrow _ (fun i hi => .inl hi), HW.out.2.2⟩
end Go.Proofs.Ytdjcaogffppdhaa.Log
namespace Go.Proofs.Ytdjcaogffppdhaa.Log
open Go.RowKit Go.ChangeMaps Go.Proofs.Ytdjcaogffppdhaa.IMap Go.Proofs.Ytdjcaogffppdhaa.AtX Go.Proofs.Ytdjcaogffppdhaa.App Go.Proofs.Ytdjcaogffppdhaa.SumPure Go.Proofs.Ytdjcaogffppdhaa.Lst
open Go.Proofs.Ytdjcaogffppdhaa.Med (IsMed Med Ranged IsSize IsFiles Filed)
open Go.Proofs.Ytdjcaogffppdhaa.FramesPure
open Go.Proofs.YtdjcaogffppdhaaW.PrintWords Go.Proofs.YtdjcaogffppdhaaW.PrintLast Go.Proofs.YtdjcaogffppdhaaW.PrintMore
theorem Lst.stay {w w2 : World} {v : Value} {K : List Int} (h : Lst w v K) (hlt : ∀ g, v.ownBlock = some g → g < w2.heap.size) (hs : ∀ g, v.ownBlock = some g → w2.heap[g]? = w.heap[g]?) : Lst w2 v K := by
  rcases h with e | ⟨gg, cc, e, hg, h1, h2, h3⟩
  · exact .inl e
  · have ho : v.ownBlock = some gg := by rw [e]; rfl
    exact .inr ⟨gg, cc, e, hlt gg ho, h1, h2, fun j hj => (World.cell?_of_block (hs gg ho)).trans (h3 j hj)⟩
/-- Does a Trim stop ahead of a file? -/
def stops (L : Lg) (x f : Int) : Bool := decide (f ≥ L.file) || ((L.lasts f).isSome && decide ((L.lasts f).getD 0 > x))
def trimL (L : Lg) (x : Int) : List Int → Med → Med × Int
  | [], M => (M, 0)
  | f :: K, M => if stops L x f = true then (M, 0) else if (M.remove f).2 = 0 then trimL L x K (M.remove f).1 else M.remove f
theorem trim_at (L : Lg) (x : Int) {K : List Int} {i : Nat} (hi : i < K.length) (M : Med) : trimL L x (K.drop i) M = if stops L x (K.getD i 0) = true then (M, 0) else if (M.remove (K.getD i 0)).2 = 0 then trimL L x (K.drop (i + 1)) (M.remove (K.getD i 0)).1 else M.remove (K.getD i 0) := by
  have : K.getD i 0 = K[i] := by simp [List.getD_eq_getElem?_getD, hi]
  rw [List.drop_eq_getElem_cons hi, this, trimL]
set_option maxHeartbeats 4000000 in
set_option maxRecDepth 100000 in
theorem trim_nil (x : Int) (w : World) : Calls Try.prog 34 #[.pointer none, .int .i64 x] w fun e w' => e = .returned (.int .i64 2) ∧ w = w' := by
  go_enter Try.func34, Try.ntmps34
  go_wp2
  go_ret
  exact ⟨rfl, rfl⟩
set_option maxHeartbeats 16000000 in
set_option maxRecDepth 100000 in
theorem trim_calls {w0 w : World} {X : Nat → Prop} {bm bl g n : Nat} {M : Med} {L : Lg} (h : LAt w0 X bm bl g M L n w) (hfd : Filed M) (hn : n ≤ 10000000000000) {l : List Int} (hl : IsFiles M l) (x : Int) :
    Calls Try.prog 34 #[.pointer (some ⟨bl, 0, none⟩), .int .i64 x] w fun e w' => e = .returned (.int .i64 (trimL L x (segsOf l) M).2) ∧ LAt w0 X bm bl g (trimL L x (segsOf l) M).1 L (n + 3 * (segsOf l).length) w' ∧ Same X w w' := by
  have hll := files_le hfd hl
  have hKl : (segsOf l).length ≤ 1048576 := by have := seg_len l l.length; rw [List.take_length] at this; omega
  have hKm : ∀ f ∈ segsOf l, 0 ≤ f ∧ f < 1048576 := fun f hf => hfd f ((hl.mem f).1 (List.mem_filter.1 hf).1)
  have hs := h.seg hfd hn hl
  generalize segsOf l = K at *
  obtain ⟨c0, c1, c2, c3, c4, cf⟩ := h.cells
  obtain ⟨R, hR⟩ : ∃ R, R = trimL L x K M := ⟨_, rfl⟩
  rw [← hR]
  have HR := Aside0.mk hR
  have HKM := Aside0.mk hKm
  have H := Aside0.mk h
  clear hR h hl hll hKm hfd
  go_enter Try.func34, Try.ntmps34
  go_wp2_with (fail)
  refine hs.mono ?_
  rintro e w1 ⟨v, rfl, hv, hk, hb⟩
  obtain ⟨A, c, rfl⟩ := Lst.shape hv
  have HV := Aside0.mk hv
  have HK := Aside0.mk hk
  have HB := Aside0.mk hb
  clear hs hv hk hb c0 c1 c2 c3 c4 cf
  go_wp2_with (fail)
  go_loopw [18] (fun v18 wr => ∃ (i : Nat) (M' : Med), i ≤ K.length ∧ v18 = .int .i64 i ∧ Aside0 (R = trimL L x (K.drop i) M') ∧ Aside0 (LAt w0 (fun i => X i ∨ (Value.slice A K.length c).ownBlock = some i) bm bl g M' L (n + 3 * i) wr ∧ Lst wr (.slice A K.length c) K ∧ Same X w wr)) (fun v18 _ => K.length - (intOf v18).toNat)
  case atStart => exact ⟨0, M, by omega, rfl, ⟨by rw [List.drop_zero]; exact HR.out⟩, ⟨HK.out, HV.out, Same.below H.out.lt HB.out⟩⟩
  case round =>
    obtain ⟨i, M', hi, rfl, HQ, HW⟩ := hrel
    clear HK HV HB HR
    by_cases hlt : i < K.length
    · obtain ⟨ad, c', hv, hcc, hcell⟩ := Lst.at_ HW.out.2.1 hlt
      cases hv
      obtain ⟨d0, d1, d2, d3, d4, df⟩ := HW.out.1.cells
      have hm : K.getD i 0 ∈ K := by
        rw [show K.getD i 0 = K[i] from by simp [List.getD_eq_getElem?_getD, hlt]]
        exact List.getElem_mem hlt
      obtain ⟨f0, f1⟩ := HKM.out _ hm
      have hq := HQ.out
      rw [trim_at L x hlt] at hq
      generalize K.getD i 0 = z at *
      have hlk := HW.out.1.look (f := z) (Med.wf_small (by omega) (by omega))
      by_cases hz : z ≥ L.file
      · have e : R = (M', 0) := by rw [hq, if_pos (by unfold stops; simp [hz])]
        subst e
        clear hq HQ
        go_wp2
        go_ret
        exact ⟨rfl, (HW.out.1.mono (by omega)).narrow _ (fun i hi => .inl hi), HW.out.2.2⟩
      · have hz' : z < L.file := by omega
        rcases hla : L.lasts z with _ | y
        · rw [hla] at hlk
          have e : R = if (M'.remove z).2 = 0 then trimL L x (K.drop (i + 1)) (M'.remove z).1 else M'.remove z := by rw [hq, if_neg (by unfold stops; simp [hla]; omega)]
          have HE := Aside0.mk e
          have hrm := HW.out.1.remove z (by omega)
          simp only [Option.isSome_none, Option.getD_none] at hlk
          clear hq HQ e hla
          obtain ⟨M2, ec, hmv⟩ : ∃ M2 ec, M'.remove z = (M2, ec) := ⟨_, _, rfl⟩
          rw [hmv] at hrm HE
          clear hmv
          go_wp2_with (fail)
          refine hrm.mono ?_
          rintro e w2 ⟨rfl, k1, k2⟩
          have HW2 : Aside0 (LAt w0 (fun i => X i ∨ (Value.slice (some ⟨ad, 0, none⟩) K.length c).ownBlock = some i) bm bl g M2 L (n + 3 * (i + 1)) w2 ∧ Lst w2 (.slice (some ⟨ad, 0, none⟩) K.length c) K ∧ Same X w w2) := ⟨k1.mono (by omega), Lst.stay HW.out.2.1 (fun g hg => k1.lt g (.inr hg)) (fun g hg => k2 g (.inr hg)), fun j hj => (k2 j (.inl hj)).trans (HW.out.2.2 j hj)⟩
          clear hrm k1 k2 d0 d1 d2 d3 d4 df hcell hlk HW
          by_cases he : ec = 0
          · subst he
            have e : R = trimL L x (K.drop (i + 1)) M2 := by rw [HE.out]; simp
            have HE2 := Aside0.mk e
            clear HE e
            go_wp2
            go_roundw
            case rel => exact ⟨i + 1, M2, by omega, by go_num, HE2, HW2⟩
            case measure => simp [intOf]; omega
          · have e : R = (M2, ec) := by rw [HE.out]; simp [he]
            subst e
            have heb : (ec != 0) = true := by simpa using he
            clear HE he
            go_wp2
            go_ret
            exact ⟨rfl, (HW2.out.1.mono (by omega)).narrow _ (fun i hi => .inl hi), HW2.out.2.2⟩
        · rw [hla] at hlk
          by_cases hy : y > x
          · have e : R = (M', 0) := by rw [hq, if_pos (by unfold stops; simp [hla, hy])]
            subst e
            simp only [Option.isSome_some, Option.getD_some] at hlk
            clear hq HQ hla
            go_wp2
            go_ret
            exact ⟨rfl, (HW.out.1.mono (by omega)).narrow _ (fun i hi => .inl hi), HW.out.2.2⟩
          · have e : R = if (M'.remove z).2 = 0 then trimL L x (K.drop (i + 1)) (M'.remove z).1 else M'.remove z := by rw [hq, if_neg (by unfold stops; simp [hla]; omega)]
            have HE := Aside0.mk e
            have hrm := HW.out.1.remove z (by omega)
            simp only [Option.isSome_some, Option.getD_some] at hlk
            clear hq HQ e hla
            obtain ⟨M2, ec, hmv⟩ : ∃ M2 ec, M'.remove z = (M2, ec) := ⟨_, _, rfl⟩
            rw [hmv] at hrm HE
            clear hmv
            go_wp2_with (fail)
            refine hrm.mono ?_
            rintro e w2 ⟨rfl, k1, k2⟩
            have HW2 : Aside0 (LAt w0 (fun i => X i ∨ (Value.slice (some ⟨ad, 0, none⟩) K.length c).ownBlock = some i) bm bl g M2 L (n + 3 * (i + 1)) w2 ∧ Lst w2 (.slice (some ⟨ad, 0, none⟩) K.length c) K ∧ Same X w w2) := ⟨k1.mono (by omega), Lst.stay HW.out.2.1 (fun g hg => k1.lt g (.inr hg)) (fun g hg => k2 g (.inr hg)), fun j hj => (k2 j (.inl hj)).trans (HW.out.2.2 j hj)⟩
            clear hrm k1 k2 d0 d1 d2 d3 d4 df hcell hlk HW
            by_cases he : ec = 0
            · subst he
              have e : R = trimL L x (K.drop (i + 1)) M2 := by rw [HE.out]; simp
              have HE2 := Aside0.mk e
              clear HE e
              go_wp2
              go_roundw
              case rel => exact ⟨i + 1, M2, by omega, by go_num, HE2, HW2⟩
              case measure => simp [intOf]; omega
            · have e : R = (M2, ec) := by rw [HE.out]; simp [he]
              subst e
              have heb : (ec != 0) = true := by simpa using he
              clear HE he
              go_wp2
              go_ret
              exact ⟨rfl, (HW2.out.1.mono (by omega)).narrow _ (fun i hi => .inl hi), HW2.out.2.2⟩
    · obtain rfl : i = K.length := by omega
      have e : R = (M', 0) := by rw [HQ.out, List.drop_length]; rfl
      subst e
      go_wp2
      go_ret
      exact ⟨rfl, HW.out.1.narrow _ (fun i hi => .inl hi), HW.out.2.2⟩
end Go.Proofs.Ytdjcaogffppdhaa.Log
namespace Go.Proofs.Ytdjcaogffppdhaa.Log
open Go.RowKit Go.ChangeMaps Go.Proofs.Ytdjcaogffppdhaa.IMap Go.Proofs.Ytdjcaogffppdhaa.AtX Go.Proofs.Ytdjcaogffppdhaa.App Go.Proofs.Ytdjcaogffppdhaa.SumPure Go.Proofs.Ytdjcaogffppdhaa.Lst
open Go.Proofs.Ytdjcaogffppdhaa.Med (IsMed Med Ranged IsSize IsFiles Filed)
open Go.Proofs.Ytdjcaogffppdhaa.FramesPure
open Go.Proofs.YtdjcaogffppdhaaW.PrintWords Go.Proofs.YtdjcaogffppdhaaW.PrintLast Go.Proofs.YtdjcaogffppdhaaW.PrintMore
attribute [local go_sem ↓] Go.wp_at_zero Go.wp_at_succ
/-- Sectors written one behind the other, till one is not. -/
def appW (f a : Int) : List ByteArray → Nat → Med → Med × Int
  | [], _, M => (M, 0)
  | s :: ss, i, M => if (M.write f (a + i) s).2 = 0 then appW f a ss (i + 1) (M.write f (a + i) s).1 else M.write f (a + i) s
def movedL (L : Lg) (q : Int) : Lg := if L.at' + q > 16 then { L with file := L.file + 1, at' := 0 } else L
/-- What stands behind an Append all of whose sectors were written. -/
def doneL (L : Lg) (q : Int) : Lg := { L with at' := L.at' + q, next := L.next + 1, lasts := fun j => if j = L.file then some L.next else L.lasts j }
def appendL (M : Med) (L : Lg) (D : List UInt8) : Med × Lg × Int × Int :=
  if (layP L.next D).2 ≠ 0 then (M, L, 0, (layP L.next D).2) else
  if (appW (movedL L (layP L.next D).1.length).file (movedL L (layP L.next D).1.length).at' (layP L.next D).1 0 M).2 ≠ 0 then
    ((appW (movedL L (layP L.next D).1.length).file (movedL L (layP L.next D).1.length).at' (layP L.next D).1 0 M).1, movedL L (layP L.next D).1.length, 0, (appW (movedL L (layP L.next D).1.length).file (movedL L (layP L.next D).1.length).at' (layP L.next D).1 0 M).2)
  else ((appW (movedL L (layP L.next D).1.length).file (movedL L (layP L.next D).1.length).at' (layP L.next D).1 0 M).1, doneL (movedL L (layP L.next D).1.length) (layP L.next D).1.length, L.next, 0)
theorem appW_at (f a : Int) {ss : List ByteArray} {i : Nat} (hi : i < ss.length) (M : Med) : appW f a (ss.drop i) i M = if (M.write f (a + i) (ss.getD i ⟨#[]⟩)).2 = 0 then appW f a (ss.drop (i + 1)) (i + 1) (M.write f (a + i) (ss.getD i ⟨#[]⟩)).1 else M.write f (a + i) (ss.getD i ⟨#[]⟩) := by
  have : ss.getD i ⟨#[]⟩ = ss[i] := by simp [List.getD_eq_getElem?_getD, hi]
  rw [List.drop_eq_getElem_cons hi, this, appW]
theorem SRow.at_ {w : World} {v : Value} {l : List ByteArray} (h : SRow w v l) {i : Nat} (hi : i < l.length) : ∃ ad c, v = .slice (some ad) l.length c ∧ l.length ≤ c ∧ c ≤ 9223372036854775807 ∧ w.cell? (ad.add i) = some (.string (l.getD i ⟨#[]⟩)) := by
  obtain ⟨A, c, rfl, h1, h2, h3⟩ := h
  obtain ⟨ad, rfl, _, hc⟩ := h3 (by omega)
  exact ⟨ad, c, rfl, h1, h2, hc i hi⟩
theorem SRow.stay {w w2 : World} {v : Value} {K : List ByteArray} (h : SRow w v K) (hlt : ∀ g, v.ownBlock = some g → g < w2.heap.size) (hs : ∀ g, v.ownBlock = some g → w2.heap[g]? = w.heap[g]?) : SRow w2 v K := by
  obtain ⟨A, c, rfl, h1, h2, h3⟩ := h
  refine ⟨A, c, rfl, h1, h2, fun hl => ?_⟩
  obtain ⟨ad, rfl, hb, hc⟩ := h3 hl
  exact ⟨ad, rfl, hlt ad.block rfl, fun j hj => (World.cell?_of_block (by rw [block_of_add]; exact hs ad.block rfl)).trans (hc j hj)⟩
theorem lay_sizes (n : Int) (D : List UInt8) : (layP n D).1.length ≤ 8 ∧ ∀ s ∈ (layP n D).1, s.size ≤ 1000 := by
  unfold layP
  by_cases h : okLay n D
  · rw [if_pos h]
    refine ⟨by rw [secs_len]; exact (cnt_le _).2 h.2.2, fun s hs => ?_⟩
    obtain ⟨i, hi, rfl⟩ := List.mem_map.1 hs
    unfold secAt
    rw [size_mk, Sect.sect_len _ _ _ _ (by rw [chunk_len]; omega)]
    omega
  · rw [if_neg h]
    exact ⟨by simp, fun s hs => by simp at hs⟩
theorem lay_err (n : Int) (D : List UInt8) : (layP n D).2 = 0 ∨ (layP n D).2 = 43 := by
  unfold layP; split <;> simp
set_option maxHeartbeats 4000000 in
set_option maxRecDepth 100000 in
theorem append_nil (a : ByteArray) (w : World) : Calls Try.prog 32 #[.pointer none, .string a] w fun e w' => e = .returned (.tuple #[.int .i64 0, .int .i64 2]) ∧ w = w' := by
  go_enter Try.func32, Try.ntmps32
  go_wp2
  go_ret2
  exact ⟨rfl, rfl⟩
set_option maxHeartbeats 16000000 in
set_option maxRecDepth 100000 in
theorem append_calls {w0 w : World} {X : Nat → Prop} {bm bl g n : Nat} {M : Med} {L : Lg} (h : LAt w0 X bm bl g M L n w) (hn : n ≤ 10000000000000) (a : ByteArray) (ha : a.size ≤ 1000000000000000)
    (hf : 0 ≤ L.file ∧ L.file ≤ 2000000) (hat : 0 ≤ L.at' ∧ L.at' ≤ 16) (hx : 0 ≤ L.next ∧ L.next ≤ 1000000000000) :
    Calls Try.prog 32 #[.pointer (some ⟨bl, 0, none⟩), .string a] w fun e w' => e = .returned (.tuple #[.int .i64 (appendL M L a.data.toList).2.2.1, .int .i64 (appendL M L a.data.toList).2.2.2]) ∧ LAt w0 X bm bl g (appendL M L a.data.toList).1 (appendL M L a.data.toList).2.1 (n + 30) w' ∧ Same X w w' := by
  have hlay := lay_calls L.next a ha
  obtain ⟨hlen, hsz⟩ := lay_sizes L.next a.data.toList
  have herr := lay_err L.next a.data.toList
  obtain ⟨R, hR⟩ : ∃ R, R = appendL M L a.data.toList := ⟨_, rfl⟩
  rw [← hR]
  unfold appendL at hR
  generalize layP L.next a.data.toList = lp at *
  obtain ⟨ss, le⟩ := lp
  simp only [] at hR hlen hsz herr hlay
  obtain ⟨c0, c1, c2, c3, c4, cf⟩ := h.cells
  have HR := Aside0.mk hR
  have H := Aside0.mk h
  have HSZ := Aside0.mk hsz
  obtain ⟨hf0, hf1⟩ := hf
  obtain ⟨ha0, ha1⟩ := hat
  obtain ⟨hx0, hx1⟩ := hx
  clear hR h hsz
  go_enter Try.func32, Try.ntmps32
  rcases herr with he | he
  · subst he
    have HR2 := HR.out
    rw [if_neg (by simp)] at HR2
    have HR := Aside0.mk HR2
    clear HR2
    go_wp2_with (fail)
    refine (hlay _).mono ?_
    rintro e w1 ⟨v, rfl, hv, hvn, hb⟩
    obtain ⟨A, c, rfl⟩ : ∃ A c, v = .slice A ss.length c := by obtain ⟨A, c, e, _⟩ := hv; exact ⟨A, c, e⟩
    have HW1 : Aside0 (LAt w0 (fun i => X i ∨ (Value.slice A ss.length c).ownBlock = some i) bm bl g M L n w1 ∧ SRow w1 (.slice A ss.length c) ss ∧ Same X w w1) := ⟨H.out.more hb _ (fun i hi => by
      rcases hi with hi | hi
      · exact ⟨.inl hi, Nat.lt_of_lt_of_le (H.out.lt i hi) hb.size⟩
      · exact ⟨.inr (hvn i hi).1, (hvn i hi).2⟩), hv, Same.below H.out.lt hb⟩
    clear hlay hv hvn hb c0 c1 c2 c3 c4 cf
    obtain ⟨d0, d1, d2, d3, d4, df⟩ := HW1.out.1.cells
    obtain ⟨L1, hL1⟩ : ∃ L1, L1 = movedL L ss.length := ⟨_, rfl⟩
    rw [← hL1] at HR
    have hcase : (L.at' + (ss.length : Int) > 16 ∧ L1 = { L with file := L.file + 1, at' := 0 }) ∨ (¬(L.at' + (ss.length : Int) > 16) ∧ L1 = L) := by
      rw [hL1]; unfold movedL
      by_cases hc : L.at' + (ss.length : Int) > 16
      · exact .inl ⟨hc, by rw [if_pos hc]⟩
      · exact .inr ⟨hc, by rw [if_neg hc]⟩
    have hm1 : 0 ≤ L1.file ∧ L1.file ≤ 2000001 ∧ 0 ≤ L1.at' ∧ L1.at' + (ss.length : Int) ≤ 16 ∧ L1.next = L.next := by
      rcases hcase with ⟨_, e⟩ | ⟨_, e⟩
      · rw [e]; refine ⟨?_, ?_, ?_, ?_, rfl⟩ <;> simp <;> omega
      · rw [e]; refine ⟨?_, ?_, ?_, ?_, rfl⟩ <;> omega
    obtain ⟨m1, m2, m3, m4, m5⟩ := hm1
    have HM5 := Aside0.mk m5
    clear m5
    clear hL1
    rcases hcase with ⟨hc, e1⟩ | ⟨hc, e1⟩
    · have HE1 := Aside0.mk e1
      clear e1
      go_upto_region 8 with (fail)
      go_name_world w2 h2
      have HW2 : Aside0 (LAt w0 (fun i => X i ∨ (Value.slice A ss.length c).ownBlock = some i) bm bl g M L1 n w2 ∧ SRow w2 (.slice A ss.length c) ss ∧ Same X w w2) := ⟨by
        have k1 := (HW1.out.1.set 1 (.int .i64 (L.file + 1)) (L' := { L with file := L.file + 1 }) rfl rfl).set 2 (.int .i64 0) (L' := { L with file := L.file + 1, at' := 0 }) rfl rfl
        rw [h2, ← HE1.out] at k1
        have ks : ∀ j, j ≠ bl → w2.heap[j]? = w1.heap[j]? := fun j hj => by rw [← h2, Med.heap_set_ne hj, Med.heap_set_ne hj]
        exact ⟨k1, SRow.stay HW1.out.2.1 (fun j hj => k1.lt j (.inr hj)) (fun j hj => ks j (fun e => k1.xb (.inr (by rw [← e]; exact hj)))), fun j hj => (ks j (fun e => k1.xb (.inl (by rw [← e]; exact hj)))).trans (HW1.out.2.2 j hj)⟩⟩
      clear h2 HW1 HE1 d0 d1 d2 d3 d4 df
      obtain ⟨MR, er, hW⟩ : ∃ MR er, appW L1.file L1.at' ss 0 M = (MR, er) := ⟨_, _, rfl⟩
      rw [hW] at HR
      have HAW := Aside0.mk hW
      clear hW
      have hLl : 0 ≤ L1.file := m1
      go_wp2_with (fail)
      go_loopw [47] (fun v47 wr => ∃ (i : Nat) (M' : Med), i ≤ ss.length ∧ v47 = .int .i64 i ∧ Aside0 (appW L1.file L1.at' (ss.drop i) i M' = (MR, er)) ∧ Aside0 (LAt w0 (fun i => X i ∨ (Value.slice A ss.length c).ownBlock = some i) bm bl g M' L1 (n + 3 * i) wr ∧ SRow wr (.slice A ss.length c) ss ∧ Same X w wr)) (fun v47 _ => ss.length - (intOf v47).toNat)
      case atStart => exact ⟨0, M, by omega, rfl, ⟨by rw [List.drop_zero]; exact HAW.out⟩, ⟨HW2.out⟩⟩
      case round =>
        obtain ⟨i, M', hi, rfl, HQ, HW⟩ := hrel
        clear HW2 HAW
        by_cases hlt : i < ss.length
        · obtain ⟨ad, c', hv, hcc, hcm, hcell⟩ := SRow.at_ HW.out.2.1 hlt
          cases hv
          obtain ⟨d0, d1, d2, d3, d4, df⟩ := HW.out.1.cells
          have hq := HQ.out
          rw [appW_at _ _ hlt] at hq
          have hs1 := HSZ.out (ss.getD i ⟨#[]⟩) (by rw [show ss.getD i ⟨#[]⟩ = ss[i] from by simp [List.getD_eq_getElem?_getD, hlt]]; exact List.getElem_mem hlt)
          generalize ss.getD i ⟨#[]⟩ = s at *
          have hwr := HW.out.1.drew.write L1.file (L1.at' + i) s (by omega) (by omega)
          obtain ⟨M2, ec, hmv⟩ : ∃ M2 ec, M'.write L1.file (L1.at' + i) s = (M2, ec) := ⟨_, _, rfl⟩
          rw [hmv] at hwr hq
          have hq2 := Aside0.mk hq
          clear hq HQ hmv
          have hw1 : IntKind.i64.wrap (L1.at' + (i : Int)) = L1.at' + (i : Int) := by rw [IntKind.wrap_i64]; omega
          go_upto_region 11 with (fail)
          go_region_held3 (fun w' => w'.cell? ⟨bl, 0, none⟩ = some (.pointer (some ⟨bm, 0, none⟩)) ∧ w'.cell? ⟨bl, 1, none⟩ = some (.int .i64 L1.file) ∧ w'.cell? ⟨bl, 2, none⟩ = some (.int .i64 L1.at')) (first | (go_split_ands; assumption) | (refine ⟨?_, ?_, ?_⟩ <;> assumption) | go_keep) (first
            | (go_at_call 12; refine hwr.mono ?_; rintro e wB ⟨rfl, k1, k2⟩; have HWB : Aside0 (LAt w0 (fun i => X i ∨ (Value.slice (some ad) ss.length c).ownBlock = some i) bm bl g M2 L1 (n + 3 * (i + 1)) wB ∧ SRow wB (.slice (some ad) ss.length c) ss ∧ Same X w wB) := ⟨k1.mono (by omega), SRow.stay HW.out.2.1 (fun j hj => k1.lt j (.inr hj)) (fun j hj => k2 j (.inr hj)), fun j hj => (k2 j (.inl hj)).trans (HW.out.2.2 j hj)⟩; obtain ⟨p0, p1, p2, p3, p4, pf⟩ := HWB.out.1.cells; clear k1 k2))
          all_goals
            clear hwr hw1 d0 d1 d2 d3 d4 df hcell HW
            by_cases he : ec = 0
            · subst he
              have e : appW L1.file L1.at' (ss.drop (i + 1)) (i + 1) M2 = (MR, er) := by rw [← hq2.out]; simp
              have HE2 := Aside0.mk e
              clear e hq2
              go_wp2
              go_roundw
              case rel => exact ⟨i + 1, M2, by omega, by go_num, HE2, HWB⟩
              case measure => simp [intOf]; omega
            · have e : (M2, ec) = (MR, er) := by rw [← hq2.out]; simp [he]
              cases e
              have e : R = (MR, L1, 0, er) := by rw [HR.out]; simp [he]
              subst e
              have heb : (er != 0) = true := by simpa using he
              clear hq2 he HR
              go_wp2
              go_ret2
              exact ⟨rfl, (HWB.out.1.mono (by omega)).narrow _ (fun i hi => .inl hi), HWB.out.2.2⟩
        · obtain rfl : i = ss.length := by omega
          have e : M' = MR ∧ er = 0 := by
            have := HQ.out
            rw [List.drop_length, appW] at this
            cases this
            exact ⟨rfl, rfl⟩
          obtain ⟨rfl, rfl⟩ := e
          have e : R = (M', doneL L1 ss.length, L.next, 0) := by rw [HR.out]; simp
          clear HR HQ
          obtain ⟨d0, d1, d2, d3, d4, df⟩ := HW.out.1.cells
          have hn1 : 0 ≤ L1.next := by have := HM5.out; omega
          have hn2 : L1.next ≤ 1000000000000 := by have := HM5.out; omega
          go_upto_region 17 with (fail)
          go_name_world w5 h5
          have HW5 : Aside0 (LAt w0 (fun i => X i ∨ (Value.slice A ss.length c).ownBlock = some i) bm bl g M' { L1 with at' := L1.at' + ss.length } (n + 3 * ss.length) w5 ∧ Same X w w5) := ⟨by
            have k1 := HW.out.1.set 2 (.int .i64 (L1.at' + ss.length)) (L' := { L1 with at' := L1.at' + ss.length }) rfl rfl
            rw [h5] at k1
            exact ⟨k1, fun j hj => by rw [← h5, Med.heap_set_ne (fun e => k1.xb (.inl (by rw [← e]; exact hj)))]; exact HW.out.2.2 j hj⟩⟩
          clear h5 HW d0 d1 d2 d3 d4 df
          obtain ⟨d0, d1, d2, d3, d4, df⟩ := HW5.out.1.cells
          simp only [] at d1 d2 d3
          obtain ⟨w6, u6, k6, s6⟩ := HW5.out.1.drew.note (by omega) (f := L1.file) (z := L1.next) (Med.wf_small (by omega) (by omega)) (Med.wf_small (by omega) (by omega))
          have hs6 : Aside0 (Same X w w6) := ⟨fun j hj => (s6 j (.inl hj)).trans (HW5.out.2 j hj)⟩
          clear s6
          have HK6 := Aside0.mk k6
          obtain ⟨q0, q1, q2, q3, q4, qf⟩ := k6.cells
          simp only [] at q1 q2 q3
          clear k6
          go_region_held3 (fun w' => w'.cell? ⟨bl, 1, none⟩ = some (.int .i64 L1.file) ∧ w'.cell? ⟨bl, 4, none⟩ = some (.map (some g))) (first | (go_split_ands; assumption) | (refine ⟨?_, ?_⟩ <;> assumption) | go_keep) (fail)
          all_goals
            have HK7 := Aside0.mk (HK6.out.set 3 (.int .i64 (L1.next + 1)) (L' := doneL L1 ss.length) rfl rfl)
            have HS7 : Aside0 (Same X w (w6.setCell ⟨bl, 3, none⟩ (.int .i64 (L1.next + 1)))) := ⟨fun j hj => (Med.heap_set_ne (fun e => HK6.out.xb (.inl (by rw [← e]; exact hj))) 3 _).trans (hs6.out j hj)⟩
            subst e
            go_wp2
            go_ret2
            exact ⟨by rw [HM5.out]; rfl, (HK7.out.mono (by omega)).narrow _ (fun i hi => .inl hi), HS7.out⟩
    · have HE1 := Aside0.mk e1
      clear e1
      go_upto_region 8 with (fail)
      go_name_world w2 h2
      have HW2 : Aside0 (LAt w0 (fun i => X i ∨ (Value.slice A ss.length c).ownBlock = some i) bm bl g M L1 n w2 ∧ SRow w2 (.slice A ss.length c) ss ∧ Same X w w2) := ⟨by
        rw [HE1.out, ← h2]
        exact HW1.out⟩
      clear h2 HW1 HE1 d0 d1 d2 d3 d4 df
      obtain ⟨MR, er, hW⟩ : ∃ MR er, appW L1.file L1.at' ss 0 M = (MR, er) := ⟨_, _, rfl⟩
      rw [hW] at HR
      have HAW := Aside0.mk hW
      clear hW
      have hLl : 0 ≤ L1.file := m1
      go_wp2_with (fail)
      go_loopw [47] (fun v47 wr => ∃ (i : Nat) (M' : Med), i ≤ ss.length ∧ v47 = .int .i64 i ∧ Aside0 (appW L1.file L1.at' (ss.drop i) i M' = (MR, er)) ∧ Aside0 (LAt w0 (fun i => X i ∨ (Value.slice A ss.length c).ownBlock = some i) bm bl g M' L1 (n + 3 * i) wr ∧ SRow wr (.slice A ss.length c) ss ∧ Same X w wr)) (fun v47 _ => ss.length - (intOf v47).toNat)
      case atStart => exact ⟨0, M, by omega, rfl, ⟨by rw [List.drop_zero]; exact HAW.out⟩, ⟨HW2.out⟩⟩
      case round =>
        obtain ⟨i, M', hi, rfl, HQ, HW⟩ := hrel
        clear HW2 HAW
        by_cases hlt : i < ss.length
        · obtain ⟨ad, c', hv, hcc, hcm, hcell⟩ := SRow.at_ HW.out.2.1 hlt
          cases hv
          obtain ⟨d0, d1, d2, d3, d4, df⟩ := HW.out.1.cells
          have hq := HQ.out
          rw [appW_at _ _ hlt] at hq
          have hs1 := HSZ.out (ss.getD i ⟨#[]⟩) (by rw [show ss.getD i ⟨#[]⟩ = ss[i] from by simp [List.getD_eq_getElem?_getD, hlt]]; exact List.getElem_mem hlt)
          generalize ss.getD i ⟨#[]⟩ = s at *
          have hwr := HW.out.1.drew.write L1.file (L1.at' + i) s (by omega) (by omega)
          obtain ⟨M2, ec, hmv⟩ : ∃ M2 ec, M'.write L1.file (L1.at' + i) s = (M2, ec) := ⟨_, _, rfl⟩
          rw [hmv] at hwr hq
          have hq2 := Aside0.mk hq
          clear hq HQ hmv
          have hw1 : IntKind.i64.wrap (L1.at' + (i : Int)) = L1.at' + (i : Int) := by rw [IntKind.wrap_i64]; omega
          go_upto_region 11 with (fail)
          go_region_held3 (fun w' => w'.cell? ⟨bl, 0, none⟩ = some (.pointer (some ⟨bm, 0, none⟩)) ∧ w'.cell? ⟨bl, 1, none⟩ = some (.int .i64 L1.file) ∧ w'.cell? ⟨bl, 2, none⟩ = some (.int .i64 L1.at')) (first | (go_split_ands; assumption) | (refine ⟨?_, ?_, ?_⟩ <;> assumption) | go_keep) (first
            | (go_at_call 12; refine hwr.mono ?_; rintro e wB ⟨rfl, k1, k2⟩; have HWB : Aside0 (LAt w0 (fun i => X i ∨ (Value.slice (some ad) ss.length c).ownBlock = some i) bm bl g M2 L1 (n + 3 * (i + 1)) wB ∧ SRow wB (.slice (some ad) ss.length c) ss ∧ Same X w wB) := ⟨k1.mono (by omega), SRow.stay HW.out.2.1 (fun j hj => k1.lt j (.inr hj)) (fun j hj => k2 j (.inr hj)), fun j hj => (k2 j (.inl hj)).trans (HW.out.2.2 j hj)⟩; obtain ⟨p0, p1, p2, p3, p4, pf⟩ := HWB.out.1.cells; clear k1 k2))
          all_goals
            clear hwr hw1 d0 d1 d2 d3 d4 df hcell HW
            by_cases he : ec = 0
            · subst he
              have e : appW L1.file L1.at' (ss.drop (i + 1)) (i + 1) M2 = (MR, er) := by rw [← hq2.out]; simp
              have HE2 := Aside0.mk e
              clear e hq2
              go_wp2
              go_roundw
              case rel => exact ⟨i + 1, M2, by omega, by go_num, HE2, HWB⟩
              case measure => simp [intOf]; omega
            · have e : (M2, ec) = (MR, er) := by rw [← hq2.out]; simp [he]
              cases e
              have e : R = (MR, L1, 0, er) := by rw [HR.out]; simp [he]
              subst e
              have heb : (er != 0) = true := by simpa using he
              clear hq2 he HR
              go_wp2
              go_ret2
              exact ⟨rfl, (HWB.out.1.mono (by omega)).narrow _ (fun i hi => .inl hi), HWB.out.2.2⟩
        · obtain rfl : i = ss.length := by omega
          have e : M' = MR ∧ er = 0 := by
            have := HQ.out
            rw [List.drop_length, appW] at this
            cases this
            exact ⟨rfl, rfl⟩
          obtain ⟨rfl, rfl⟩ := e
          have e : R = (M', doneL L1 ss.length, L.next, 0) := by rw [HR.out]; simp
          clear HR HQ
          obtain ⟨d0, d1, d2, d3, d4, df⟩ := HW.out.1.cells
          have hn1 : 0 ≤ L1.next := by have := HM5.out; omega
          have hn2 : L1.next ≤ 1000000000000 := by have := HM5.out; omega
          go_upto_region 17 with (fail)
          go_name_world w5 h5
          have HW5 : Aside0 (LAt w0 (fun i => X i ∨ (Value.slice A ss.length c).ownBlock = some i) bm bl g M' { L1 with at' := L1.at' + ss.length } (n + 3 * ss.length) w5 ∧ Same X w w5) := ⟨by
            have k1 := HW.out.1.set 2 (.int .i64 (L1.at' + ss.length)) (L' := { L1 with at' := L1.at' + ss.length }) rfl rfl
            rw [h5] at k1
            exact ⟨k1, fun j hj => by rw [← h5, Med.heap_set_ne (fun e => k1.xb (.inl (by rw [← e]; exact hj)))]; exact HW.out.2.2 j hj⟩⟩
          clear h5 HW d0 d1 d2 d3 d4 df
          obtain ⟨d0, d1, d2, d3, d4, df⟩ := HW5.out.1.cells
          simp only [] at d1 d2 d3
          obtain ⟨w6, u6, k6, s6⟩ := HW5.out.1.drew.note (by omega) (f := L1.file) (z := L1.next) (Med.wf_small (by omega) (by omega)) (Med.wf_small (by omega) (by omega))
          have hs6 : Aside0 (Same X w w6) := ⟨fun j hj => (s6 j (.inl hj)).trans (HW5.out.2 j hj)⟩
          clear s6
          have HK6 := Aside0.mk k6
          obtain ⟨q0, q1, q2, q3, q4, qf⟩ := k6.cells
          simp only [] at q1 q2 q3
          clear k6
          go_region_held3 (fun w' => w'.cell? ⟨bl, 1, none⟩ = some (.int .i64 L1.file) ∧ w'.cell? ⟨bl, 4, none⟩ = some (.map (some g))) (first | (go_split_ands; assumption) | (refine ⟨?_, ?_⟩ <;> assumption) | go_keep) (fail)
          all_goals
            have HK7 := Aside0.mk (HK6.out.set 3 (.int .i64 (L1.next + 1)) (L' := doneL L1 ss.length) rfl rfl)
            have HS7 : Aside0 (Same X w (w6.setCell ⟨bl, 3, none⟩ (.int .i64 (L1.next + 1)))) := ⟨fun j hj => (Med.heap_set_ne (fun e => HK6.out.xb (.inl (by rw [← e]; exact hj))) 3 _).trans (hs6.out j hj)⟩
            subst e
            go_wp2
            go_ret2
            exact ⟨by rw [HM5.out]; rfl, (HK7.out.mono (by omega)).narrow _ (fun i hi => .inl hi), HS7.out⟩
  · subst he
    have e : R = (M, L, 0, 43) := by rw [HR.out]; simp
    subst e
    go_wp2_with (fail)
    refine (hlay _).mono ?_
    rintro e w1 ⟨v, rfl, hv, hvn, hb⟩
    have HK := Aside0.mk (And.intro ((H.out.after hb).mono (show n ≤ n + 30 by omega)) (Same.below H.out.lt hb))
    clear hlay hv hvn hb c0 c1 c2 c3 c4 cf
    go_wp2_with (fail)
    go_ret2
    exact ⟨rfl, HK.out⟩
end Go.Proofs.Ytdjcaogffppdhaa.Log
namespace Go.Proofs.Ytdjcaogffppdhaa.Log
open Go.RowKit Go.ChangeMaps Go.Proofs.Ytdjcaogffppdhaa.IMap Go.Proofs.Ytdjcaogffppdhaa.AtX Go.Proofs.Ytdjcaogffppdhaa.App Go.Proofs.Ytdjcaogffppdhaa.SumPure Go.Proofs.Ytdjcaogffppdhaa.Lst
open Go.Proofs.Ytdjcaogffppdhaa.Med (IsMed Med Ranged IsSize IsFiles Filed)
open Go.Proofs.Ytdjcaogffppdhaa.FramesPure
open Go.Proofs.YtdjcaogffppdhaaW.PrintWords Go.Proofs.YtdjcaogffppdhaaW.PrintLast Go.Proofs.YtdjcaogffppdhaaW.PrintMore
attribute [local go_sem ↓] Go.wp_at_zero Go.wp_at_succ
abbrev Fr := Int × ByteArray
/-- The sectors that stand one behind the other. -/
def collect (M : Med) (f : Int) : Nat → Int → List ByteArray
  | 0, _ => []
  | k + 1, i => if (M.read f i).2 = 0 then (M.read f i).1 :: collect M f k (i + 1) else []
theorem collect_len (M : Med) (f : Int) : ∀ (k : Nat) (i : Int), (collect M f k i).length ≤ k := by
  intro k
  induction k with
  | zero => intro i; simp [collect]
  | succ k ih => intro i; rw [collect]; split; (· have := ih (i + 1); simp; omega); simp
def foundP (M : Med) (S : Lg × List Fr) (f a : Int) : Option (Lg × List Fr) :=
  if (joinP (collect M f (16 - a).toNat a)).2.2.2 ≠ 0 ∨ (S.2 ≠ [] ∧ (joinP (collect M f (16 - a).toNat a)).1 ≠ S.1.next) then none
  else some (⟨f, a + (joinP (collect M f (16 - a).toNat a)).2.2.1, (joinP (collect M f (16 - a).toNat a)).1 + 1, fun j => if j = f then some (joinP (collect M f (16 - a).toNat a)).1 else S.1.lasts j⟩, S.2 ++ [((joinP (collect M f (16 - a).toNat a)).1, (joinP (collect M f (16 - a).toNat a)).2.1)])
def fcells : List Fr → List Value
  | [] => []
  | x :: l => .int .i64 x.1 :: .string x.2 :: fcells l
theorem fcells_len (l : List Fr) : (fcells l).length = l.length * 2 := by
  induction l with
  | nil => rfl
  | cons x l ih => simp only [fcells, List.length_cons, ih]; omega
theorem fcells_append (a b : List Fr) : fcells (a ++ b) = fcells a ++ fcells b := by
  induction a with
  | nil => rfl
  | cons x l ih => simp [fcells, ih]
theorem fcells_at (l : List Fr) : ∀ (i : Nat) (x : Fr), l[i]? = some x → (fcells l)[i * 2]? = some (.int .i64 x.1) ∧ (fcells l)[i * 2 + 1]? = some (.string x.2) := by
  induction l with
  | nil => intro i x h; simp at h
  | cons y l ih =>
    intro i x h
    cases i with
    | zero => simp at h; subst h; exact ⟨rfl, rfl⟩
    | succ i =>
      have := ih i x (by simpa using h)
      rw [show (i + 1) * 2 = i * 2 + 1 + 1 from by omega]
      simp only [fcells, List.getElem?_cons_succ]
      exact this
/-- What Open has made so far. -/
structure St (B bm Bm Bo Bl Lb g : Nat) (L : Lg) (out : List Fr) (n : Nat) (w : World) : Prop where
  cm : w.heap[Bm]? = some (.cells #[.pointer (some ⟨bm, 0, none⟩)] 22 (0, 0))
  cl : w.heap[Bl]? = some (.cells #[.pointer (some ⟨Lb, 0, none⟩)] 49 (0, 0))
  cL : w.heap[Lb]? = some (.cells #[.pointer (some ⟨bm, 0, none⟩), .int .i64 L.file, .int .i64 L.at', .int .i64 L.next, .map (some g)] 84 (0, 0))
  cg : IMap w Try.prog 3 RI g n (FI L.lasts)
  co : ∃ v, w.heap[Bo]? = some (.cells #[v] 50 (0, 0)) ∧ w.ownsRow B 57 2 v out.length (fcells out)
  l1 : B ≤ Bm
  l2 : B ≤ Bl
  l3 : B ≤ Lb
  l4 : B ≤ g
  l5 : B ≤ Bo
theorem ne_type {w : World} {a b : Nat} {cs cs' : Array Value} {t t' : TypeId} {f f' : Nat × Nat} (h : w.heap[a]? = some (.cells cs t f)) (h' : w.heap[b]? = some (.cells cs' t' f')) (hne : t ≠ t') : a ≠ b := by
  rintro rfl
  rw [h] at h'
  injection h' with h'
  injection h' with _ ht
  exact hne ht
theorem ne_map {w : World} {a g : Nat} {cs : Array Value} {t : TypeId} {f : Nat × Nat} {k : TypeId} {R : Value → Option (D0 × List MemPlace)} {n : Nat} {F : Int → Option D0} (h : w.heap[a]? = some (.cells cs t f)) (h' : IMap w Try.prog k R g n F) : a ≠ g := by
  rintro rfl
  obtain ⟨es, c, hm⟩ := h'.is
  rw [h] at hm; cases hm
theorem ne_row {w : World} {B n size b : Nat} {e t : TypeId} {v : Value} {xs : List Value} {cs : Array Value} {f : Nat × Nat} (h : w.ownsRow B e size v n xs) (h' : w.heap[b]? = some (.cells cs t f)) (hne : e ≠ t) : v.ownBlock ≠ some b := by
  rcases h.2 with ⟨rfl, _⟩ | ⟨g, cap, cur, rfl, _, hh, _⟩
  · simp [Value.ownBlock]
  · intro he
    have : g = b := by simpa [Value.ownBlock] using he
    subst this
    exact ne_type hh h' hne rfl
theorem ne_rowmap {w : World} {B n m size g : Nat} {e k : TypeId} {v : Value} {xs : List Value} {R : Value → Option (D0 × List MemPlace)} {F : Int → Option D0} (h : w.ownsRow B e size v n xs) (h' : IMap w Try.prog k R g m F) : v.ownBlock ≠ some g := by
  rcases h.2 with ⟨rfl, _⟩ | ⟨g', cap, cur, rfl, _, hh, _⟩
  · simp [Value.ownBlock]
  · intro he
    have : g' = g := by simpa [Value.ownBlock] using he
    exact ne_map hh h' this
theorem row_keep {w w' : World} {B n size : Nat} {e : TypeId} {v : Value} {xs : List Value} (h : w.ownsRow B e size v n xs) (k : ∀ g, v.ownBlock = some g → w'.heap[g]? = w.heap[g]?) : w'.ownsRow B e size v n xs := by
  refine ⟨h.1, ?_⟩
  rcases h.2 with ho | ⟨g, cap, cur, hv, hg, hgh, rest⟩
  · exact .inl ho
  · exact .inr ⟨g, cap, cur, hv, hg, (k g (by rw [hv]; rfl)).trans hgh, rest⟩
section
variable {B bm Bm Bo Bl Lb g n : Nat} {L : Lg} {out : List Fr} {w : World}
theorem St.after (h : St B bm Bm Bo Bl Lb g L out n w) {w' : World} (k : Below w.heap.size w w') : St B bm Bm Bo Bl Lb g L out n w' := by
  have lt : ∀ {b : Nat} {o : Obj}, w.heap[b]? = some o → w'.heap[b]? = some o := fun hb => (k.block _ (Array.getElem?_eq_some_iff.1 hb).1).trans hb
  obtain ⟨v, h1, h2⟩ := h.co
  exact ⟨lt h.cm, lt h.cl, lt h.cL, h.cg.same (k.block g h.cg.lt), ⟨v, lt h1, row_keep h2 fun j hj => k.block j (h2.lt j hj).2⟩, h.l1, h.l2, h.l3, h.l4, h.l5⟩
theorem St.cells (h : St B bm Bm Bo Bl Lb g L out n w) : w.cell? ⟨Bm, 0, none⟩ = some (.pointer (some ⟨bm, 0, none⟩)) ∧ w.cell? ⟨Bl, 0, none⟩ = some (.pointer (some ⟨Lb, 0, none⟩)) ∧ w.cell? ⟨Lb, 1, none⟩ = some (.int .i64 L.file) ∧ w.cell? ⟨Lb, 2, none⟩ = some (.int .i64 L.at') ∧ w.cell? ⟨Lb, 3, none⟩ = some (.int .i64 L.next) ∧ w.cell? ⟨Lb, 4, none⟩ = some (.map (some g)) ∧ (∀ o, w.frozen? ⟨Lb, o, none⟩ = false) ∧ (∀ o, w.frozen? ⟨Bo, o, none⟩ = false) := by
  have h1 := h.cm
  have h2 := h.cl
  have h3 := h.cL
  obtain ⟨v, h4, _⟩ := h.co
  refine ⟨?_, ?_, ?_, ?_, ?_, ?_, fun o => ?_, fun o => ?_⟩ <;> simp [World.cell?, World.frozen?, h1, h2, h3, h4]
theorem St.set (h : St B bm Bm Bo Bl Lb g L out n w) (i : Nat) (v : Value) {L' : Lg} (hl : L'.lasts = L.lasts)
    (he : (#[Value.pointer (some ⟨bm, 0, none⟩), .int .i64 L.file, .int .i64 L.at', .int .i64 L.next, .map (some g)] : Array Value).setIfInBounds i v = #[.pointer (some ⟨bm, 0, none⟩), .int .i64 L'.file, .int .i64 L'.at', .int .i64 L'.next, .map (some g)]) :
    St B bm Bm Bo Bl Lb g L' out n (w.setCell ⟨Lb, i, none⟩ v) := by
  obtain ⟨u, h1, h2⟩ := h.co
  have k : ∀ {b : Nat}, b ≠ Lb → (w.setCell ⟨Lb, i, none⟩ v).heap[b]? = w.heap[b]? := fun hb => Med.heap_set_ne hb i v
  refine ⟨(k (ne_type h.cm h.cL (by decide))).trans h.cm, (k (ne_type h.cl h.cL (by decide))).trans h.cl, by rw [Med.heap_set h.cL i v, he], ?_, ⟨u, (k (ne_type h1 h.cL (by decide))).trans h1, row_keep h2 fun j hj => k (fun e => ne_row h2 h.cL (by decide) (by rw [← e]; exact hj))⟩, h.l1, h.l2, h.l3, h.l4, h.l5⟩
  rw [hl]; exact h.cg.same (k (fun e => ne_map h.cL h.cg e.symm))
theorem St.note (h : St B bm Bm Bo Bl Lb g L out n w) (hn : n < 4611686018427387904) {f z : Int} (hf : (Lit.int .i64 f).wf = true) (hz : (Lit.int .i64 z).wf = true) :
    ∃ w', (Instr.mapUpdate 82 (.map (some g)) (.int .i64 f) (.int .i64 z)).run Try.prog w = .ok () w' ∧ St B bm Bm Bo Bl Lb g { L with lasts := fun j => if j = f then some z else L.lasts j } out (n + 1) w' ∧ w.grownBy w' (some g) := by
  have hml : maxLen = 9223372036854775807 := rfl
  obtain ⟨w', e, i', gr⟩ := h.cg.update Try.underlying3 Try.underlying82 (by omega) f (Med.wf_key hf) (RI_mk hz)
  obtain ⟨u, h1, h2⟩ := h.co
  have k : ∀ {b : Nat} {cs : Array Value} {t : TypeId} {fr : Nat × Nat}, w.heap[b]? = some (.cells cs t fr) → w'.heap[b]? = some (.cells cs t fr) := fun {b} {cs} {t} {fr} hb => (gr.block b (Array.getElem?_eq_some_iff.1 hb).1 (fun e => ne_map hb h.cg (by simpa using e))).trans hb
  refine ⟨w', e, ⟨k h.cm, k h.cl, k h.cL, ?_, ⟨u, k h1, row_keep h2 fun j hj => gr.block j (h2.lt j hj).2 (fun e => ne_rowmap h2 h.cg (by rw [← e]; exact hj))⟩, h.l1, h.l2, h.l3, h.l4, h.l5⟩, gr⟩
  obtain ⟨D, o, rd⟩ := i'
  refine ⟨D, o, rd.ext fun j => ?_⟩
  unfold FI
  by_cases hj : j = f
  · simp [hj]
  · simp [hj]
theorem St.bo (h : St B bm Bm Bo Bl Lb g L out n w) {v : Value} {o : Obj} {w1 : World} (hv : w.heap[Bo]? = some (.cells #[v] 50 (0, 0))) (ho : w.ownsRow B 57 2 v out.length (fcells out)) (hg : (w.alloc o).grownBy w1 v.ownBlock) : w1.heap[Bo]? = some (.cells #[v] 50 (0, 0)) := by
  have hs : (w.alloc o).heap.size = w.heap.size + 1 := by simp
  have hlt := (Array.getElem?_eq_some_iff.1 hv).1
  rw [hg.block Bo (by omega) (fun e => ne_row ho hv (by decide) e.symm), Below.heap_alloc w o Bo hlt]
  exact hv
theorem St.mono (h : St B bm Bm Bo Bl Lb g L out n w) {n' : Nat} (k : n ≤ n') : St B bm Bm Bo Bl Lb g L out n' w := ⟨h.cm, h.cl, h.cL, h.cg.mono k, h.co, h.l1, h.l2, h.l3, h.l4, h.l5⟩
theorem St.drew (h : St B bm Bm Bo Bl Lb g L out n w) : St B bm Bm Bo Bl Lb g L out n w.drew := h.after (w' := w.drew) ⟨rfl, rfl, rfl, Nat.le_refl _, fun _ _ => rfl⟩
/-- A frame is appended, and the row stored. -/
theorem St.push (h : St B bm Bm Bo Bl Lb g L out n w) {v : Value} {o : Obj} {w1 : World} {x : Fr} {gr cap : Nat} (hv : w.heap[Bo]? = some (.cells #[v] 50 (0, 0)))
    (ho : w1.ownsRow B 57 2 (.slice (some ⟨gr, 0, none⟩) (out.length + 1) cap) (out.length + 1) (fcells out ++ [.int .i64 x.1, .string x.2])) (hg : (w.alloc o).grownBy w1 v.ownBlock) :
    St B bm Bm Bo Bl Lb g L (out ++ [x]) n (w1.setCell ⟨Bo, 0, none⟩ (.slice (some ⟨gr, 0, none⟩) (out.length + 1) cap)) := by
  obtain ⟨u, h1, h2⟩ := h.co
  have huv : u = v := by
    rw [h1] at hv
    injection hv with hv
    injection hv with hv
    simpa using hv
  subst huv
  have hs : (w.alloc o).heap.size = w.heap.size + 1 := by simp
  have k : ∀ {b : Nat} {cs : Array Value} {t : TypeId} {fr : Nat × Nat}, w.heap[b]? = some (.cells cs t fr) → 57 ≠ t → w1.heap[b]? = some (.cells cs t fr) := fun {b} {cs} {t} {fr} hb hne => by
    have hlt := (Array.getElem?_eq_some_iff.1 hb).1
    rw [hg.block b (by omega) (fun e => ne_row h2 hb hne e.symm), Below.heap_alloc w o b hlt]
    exact hb
  have k1 := k h1 (by decide)
  have kk : ∀ {b : Nat}, b ≠ Bo → (w1.setCell ⟨Bo, 0, none⟩ (.slice (some ⟨gr, 0, none⟩) (out.length + 1) cap)).heap[b]? = w1.heap[b]? := fun hb => Med.heap_set_ne hb 0 _
  have kg : w1.heap[g]? = w.heap[g]? := by
    rw [hg.block g (by have := h.cg.lt; omega) (fun e => ne_rowmap h2 h.cg e.symm), Below.heap_alloc w o g h.cg.lt]
  refine ⟨(kk (ne_type (k h.cm (by decide)) k1 (by decide))).trans (k h.cm (by decide)), (kk (ne_type (k h.cl (by decide)) k1 (by decide))).trans (k h.cl (by decide)), (kk (ne_type (k h.cL (by decide)) k1 (by decide))).trans (k h.cL (by decide)), h.cg.same ((kk (fun e => ne_map h1 h.cg e.symm)).trans kg), ⟨_, by rw [Med.heap_set k1 0 _]; rfl, ?_⟩, h.l1, h.l2, h.l3, h.l4, h.l5⟩
  rw [fcells_append, List.length_append]
  exact row_keep ho fun j hj => kk (fun e => ne_row ho k1 (by decide) (by rw [← e]; exact hj))
end
theorem frameInfo : (Try.prog.info? 57).map (fun i => (i.zero, i.size, i.bytes)) = some (some (.agg #[.int .i64 0, .string ⟨#[]⟩]), 2, 24) := by kernel_rfl
theorem stringInfo : (Try.prog.info? 9).map (fun i => (i.zero, i.size, i.bytes)) = some (some (.string ⟨#[]⟩), 1, 16) := by kernel_rfl
/-- What was collected, in memory. -/
def Coll (w : World) (ss : List ByteArray) (v : Value) (wx : World) : Prop := wx.ownsRow w.heap.size 9 1 v ss.length (ss.map Value.string) ∧ Below w.heap.size w wx
end Go.Proofs.Ytdjcaogffppdhaa.Log
namespace Go.Proofs.Ytdjcaogffppdhaa.Log
open Go.RowKit Go.ChangeMaps Go.Proofs.Ytdjcaogffppdhaa.IMap Go.Proofs.Ytdjcaogffppdhaa.AtX Go.Proofs.Ytdjcaogffppdhaa.App Go.Proofs.Ytdjcaogffppdhaa.SumPure Go.Proofs.Ytdjcaogffppdhaa.Lst
open Go.Proofs.Ytdjcaogffppdhaa.Med (IsMed Med Ranged IsSize IsFiles Filed)
open Go.Proofs.Ytdjcaogffppdhaa.FramesPure
open Go.Proofs.YtdjcaogffppdhaaW.PrintWords Go.Proofs.YtdjcaogffppdhaaW.PrintLast Go.Proofs.YtdjcaogffppdhaaW.PrintMore
attribute [local go_sem ↓] Go.wp_at_zero Go.wp_at_succ
theorem drawn_below {B : Nat} {w w' : World} (h : Below B w w') (m : Nat) : Below B w (w'.drewN m) := ⟨h.os, h.tape, h.output, h.size, h.block⟩
theorem drew_below {B : Nat} {w w' : World} (h : Below B w w') : Below B w w'.drew := ⟨h.os, h.tape, h.output, h.size, h.block⟩
theorem collect_step (M : Med) (f : Int) {i : Int} (hi : i < 16) : collect M f (16 - i).toNat i = if (M.read f i).2 = 0 then (M.read f i).1 :: collect M f (16 - (i + 1)).toNat (i + 1) else [] := by
  rw [show (16 - i).toNat = (16 - (i + 1)).toNat + 1 from by omega, collect]
set_option maxHeartbeats 16000000 in
set_option maxRecDepth 100000 in
theorem found_calls {W0 w : World} {own : Nat → Prop} {bm nM Bm Bo Bl Lb g n : Nat} {M : Med} {L : Lg} {out : List Fr} (hm : IsMed W0 own bm M nM) (hb : Below W0.heap.size W0 w) (h : St W0.heap.size bm Bm Bo Bl Lb g L out n w)
    (f a : Int) (hf0 : 0 ≤ f) (hf1 : f ≤ 2000000) (ha0 : 0 ≤ a) (ha1 : a ≤ 16) (hn : n ≤ 1000000000) (hol : out.length ≤ 1000000000) :
    Calls Try.prog 46 #[.int .i64 f, .int .i64 a, .pointer (some ⟨Bm, 0, none⟩), .pointer (some ⟨Bo, 0, none⟩), .pointer (some ⟨Bl, 0, none⟩)] w fun e w' => e = .returned (.bool (foundP M (L, out) f a).isSome) ∧ St W0.heap.size bm Bm Bo Bl Lb g ((foundP M (L, out) f a).getD (L, out)).1 ((foundP M (L, out) f a).getD (L, out)).2 (n + 1) w' ∧ Below W0.heap.size W0 w' := by
  obtain ⟨R, hR⟩ : ∃ R, R = foundP M (L, out) f a := ⟨_, rfl⟩
  rw [← hR]
  unfold foundP at hR
  obtain ⟨ss, hss⟩ : ∃ ss, ss = collect M f (16 - a).toNat a := ⟨_, rfl⟩
  have hsl : ss.length ≤ 16 := by rw [hss]; have := collect_len M f (16 - a).toNat a; omega
  rw [← hss] at hR
  have HR := Aside0.mk hR
  have HSS := Aside0.mk hss
  have HM := Aside0.mk hm
  have HB := Aside0.mk hb
  have HS := Aside0.mk h
  obtain ⟨i0, hi0, hz0, hz1, hz2⟩ := infoParts stringInfo
  clear hR hss hm hb h
  go_enter Try.func46, Try.ntmps46
  go_upto_block 0 with (fail)
  go_cut [8] (fun v8 wx => Coll w ss v8 wx)
  case first =>
    go_wp2
    go_loopw [8, 9] (fun v8 v9 wr => ∃ (k : Nat) (pre : List ByteArray), a + (k : Int) ≤ 16 ∧ v9 = .int .i64 (a + (k : Int)) ∧ pre.length = k ∧ Aside0 (ss = pre ++ collect M f (16 - (a + (k : Int))).toNat (a + (k : Int))) ∧ Aside0 (Coll w pre v8 wr)) (fun _ v9 _ => (16 - intOf v9).toNat)
    case atStart => exact ⟨0, [], by omega, by go_num, rfl, ⟨by rw [HSS.out]; simp⟩, ⟨⟨World.ownsRow_nil _ _ _ _, Below.refl _ _⟩⟩⟩
    case round =>
      obtain ⟨k, pre, hk, rfl, hpl, HK, HC⟩ := hrel
      by_cases hlt : a + (k : Int) < 16
      · have hst := collect_step M f hlt
        have hmr := HM.out.below (HB.out.trans (HC.out.2.mono HB.out.size))
        have hrd := Med.read_calls hmr f (a + (k : Int))
        have hcm := (HS.out.after HC.out.2).cells.1
        obtain ⟨s, e, hse⟩ : ∃ s e, M.read f (a + (k : Int)) = (s, e) := ⟨_, _, rfl⟩
        rw [hse] at hst hrd
        have HST := Aside0.mk hst
        clear hmr hse hst
        by_cases he : e = 0
        · subst he
          have HK2 : Aside0 (ss = (pre ++ [s]) ++ collect M f (16 - (a + ((k + 1 : Nat) : Int))).toNat (a + ((k + 1 : Nat) : Int))) := ⟨by
            rw [HK.out, HST.out, if_pos rfl, show a + ((k + 1 : Nat) : Int) = a + (k : Int) + 1 from by omega]
            simp⟩
          have hps : pre.length ≤ 16 := by omega
          have hws := HC.out.2.size
          clear HK HST
          go_wp2_with (fail)
          refine hrd.mono ?_
          rintro e wA ⟨rfl, m, hA⟩
          have HCA : Aside0 (Coll w pre u8 wA) := ⟨by rw [hA]; exact ⟨HC.out.1, drawn_below HC.out.2 m⟩⟩
          have hsA : w.heap.size ≤ wA.heap.size := HCA.out.2.size
          clear hA
          go_wp2_with (first
            | (at_builtin; refine wpList_append_any _ rfl _ _ _ rfl w.heap.size 9 i0 _ 16 Try.underlying60 hi0 hz0 hz1 hz2 rfl _ pre.length (pre.map Value.string) rfl (HCA.out.1.alloc _) (wA.heap.size + 1) (some ⟨wA.heap.size, 0, none⟩) 1 1 [.string s] rfl ⟨rfl, fun _ => ⟨_, rfl, by simp, World.news_of_block (heap_alloc_new wA _)⟩⟩ (by simp; rfl) (by unfold maxLen; omega) (by omega) (by simp; omega) ?_; intro v2 w2 hown2 hg2 hat2; have HC2 : Aside0 (Coll w (pre ++ [s]) v2 w2) := ⟨⟨by rw [List.map_append, List.length_append]; exact hown2, (HCA.out.2.alloc hsA _).grown hg2 (by simp; omega) (fun j hj => (HCA.out.1.lt j hj).1)⟩⟩; clear hown2 hg2 hat2))
          go_roundw
          case rel => exact ⟨k + 1, pre ++ [s], by omega, by go_num, by simp [hpl], HK2, HC2⟩
          case measure => simp [intOf]; omega
        · have HE : Aside0 (ss = pre) := ⟨by rw [HK.out, HST.out, if_neg he, List.append_nil]⟩
          have heb : (e != 0) = true := by simpa using he
          clear HK HST he
          go_wp2_with (fail)
          refine hrd.mono ?_
          rintro e wA ⟨rfl, m, hA⟩
          have HCA : Aside0 (Coll w pre u8 wA) := ⟨by rw [hA]; exact ⟨HC.out.1, drawn_below HC.out.2 m⟩⟩
          clear hA
          go_wp2_with (fail)
          go_meet
          rw [HE.out]; exact HCA.out
      · have HE : Aside0 (ss = pre) := ⟨by rw [HK.out, show (16 - (a + (k : Int))).toNat = 0 from by omega, collect, List.append_nil]⟩
        go_wp2
        go_meet
        rw [HE.out]; exact HC.out
  case rest =>
    obtain ⟨hc1, hc2⟩ := hcut
    have hS1 := HS.out.after hc2
    have hB1 := HB.out.trans (hc2.mono HB.out.size)
    have hjc := join_calls (SRow.of_row hc1) (by omega)
    obtain ⟨A8, c8, rfl⟩ : ∃ A8 c8, u8 = .slice A8 ss.length c8 := by
      rcases hc1.2 with ⟨e, e0⟩ | ⟨g, cap, cur, e, _⟩
      · exact ⟨none, 0, by rw [e, e0]⟩
      · exact ⟨_, _, e⟩
    have hjb := join_back ss
    have hlb : (ss.length : Int) ≤ 16 - a := by rw [HSS.out]; have := collect_len M f (16 - a).toNat a; omega
    obtain ⟨jn, jd, jp, je, hj⟩ : ∃ jn jd jp je, joinP ss = (jn, jd, jp, je) := ⟨_, _, _, _, rfl⟩
    rw [hj] at hjc
    have HR1 := HR.out
    rw [hj] at HR1
    simp only [] at HR1 hjc
    have HS1 := Aside0.mk (And.intro hS1 hB1)
    have HR2 := Aside0.mk HR1
    have hjcase : (je = 43 ∧ R = none) ∨ (je = 0 ∧ 1 ≤ jn ∧ jn ≤ 2147483647 ∧ 1 ≤ jp ∧ a + jp ≤ 16) := by
      rcases hjb with e | ⟨n', D, ok, h2, h3, e⟩
      · rw [e] at hj
        cases hj
        exact .inl ⟨rfl, by rw [HR1, if_pos (.inl (by decide))]⟩
      · rw [e] at hj
        cases hj
        have := cnt_pos D.length
        exact .inr ⟨rfl, ok.1, ok.2.1, by omega, by omega⟩
    clear hc1 hc2 hS1 hB1 hjb hj HR1 HS HB HR
    go_wp2_with (fail)
    refine hjc.mono ?_
    rintro e w2 ⟨rfl, hb2⟩
    have HS2 : Aside0 (St W0.heap.size bm Bm Bo Bl Lb g L out n w2 ∧ Below W0.heap.size W0 w2) := ⟨HS1.out.1.after hb2, HS1.out.2.trans (hb2.mono HS1.out.2.size)⟩
    clear hjc hb2 HS1
    rcases hjcase with ⟨rfl, hRn⟩ | ⟨rfl, n0, n1, p0, p1⟩
    · subst hRn
      go_wp2
      go_ret
      exact ⟨rfl, HS2.out.1.mono (by omega), HS2.out.2⟩
    · obtain ⟨v, hv, hrow⟩ := HS2.out.1.co
      obtain ⟨Av, cv, rfl, hcv⟩ : ∃ Av cv, v = .slice Av out.length cv ∧ (0 < out.length → ∃ gv, Av = some ⟨gv, 0, none⟩) := by
        rcases hrow.2 with ⟨e, e0⟩ | ⟨g, cap, cur, e, _⟩
        · exact ⟨none, 0, by rw [e, e0], fun h => by omega⟩
        · exact ⟨_, _, e, fun _ => ⟨_, rfl⟩⟩
      have co : w2.cell? ⟨Bo, 0, none⟩ = some (.slice Av out.length cv) := by simp [World.cell?, hv]
      obtain ⟨q1, q2, q3, q4, q5, q6, qf, qo⟩ := HS2.out.1.cells
      have HV := Aside0.mk (And.intro hv hrow)
      clear hv hrow
      by_cases hbad : 0 < out.length ∧ jn ≠ L.next
      · have hRn : R = none := by
          rw [HR2.out, if_pos (.inr ⟨by intro e; rw [e] at hbad; simp at hbad, hbad.2⟩)]
        subst hRn
        obtain ⟨hb0, hb1⟩ := hbad
        have hb1b : (jn != L.next) = true := by simpa using hb1
        clear hb1
        go_wp2
        go_ret
        exact ⟨rfl, HS2.out.1.mono (by omega), HS2.out.2⟩
      · have hRn : R = some (⟨f, a + jp, jn + 1, fun j => if j = f then some jn else L.lasts j⟩, out ++ [(jn, jd)]) := by
          rw [HR2.out, if_neg]
          rintro (h | ⟨h1, h2⟩)
          · exact h rfl
          · exact hbad ⟨by cases out with | nil => exact absurd rfl h1 | cons _ _ => simp, h2⟩
        subst hRn
        have hcs : ¬(0 < out.length) ∨ (0 < out.length ∧ jn = L.next) := by
          by_cases h : 0 < out.length
          · exact .inr ⟨h, by by_cases e : jn = L.next; exact e; exact absurd ⟨h, e⟩ hbad⟩
          · exact .inl h
        clear hbad HR2
        obtain ⟨i1, hi1, hy0, hy1, hy2⟩ := infoParts frameInfo
        have hB2 := HS2.out.2.size
        have HP : Aside0 (1 ≤ jn ∧ jn ≤ 2147483647 ∧ 1 ≤ jp ∧ a + jp ≤ 16) := ⟨⟨n0, n1, p0, p1⟩⟩
        rcases hcs with h0 | ⟨h0, h1⟩
        case' inr => have hbn : (jn != L.next) = false := by simp [h1]
        case' inr => have HJ := Aside0.mk h1
        case' inr => clear h1
        all_goals
          go_upto_region 11 with (fail)
          go_wp2_with (at_builtin; refine wpList_append_lies _ rfl _ _ 50 rfl W0.heap.size 57 i1 _ 2 24 Try.underlying50 hi1 hy0 hy1 hy2 rfl (by decide) _ _ _ rfl (HV.out.2.alloc _) ⟨w2.heap.size, 0, none⟩ 1 1 [.int .i64 jn, .string jd] rfl rfl ?hn ?h1 (by decide) ?h63 ?hb ?hbase (w2.heap.size + 1) (by simp) ?_)
          case h1 =>
            intro u hu
            simp only [List.mem_cons, List.not_mem_nil, or_false] at hu
            rcases hu with rfl | rfl <;> rfl
          case hn => exact World.news_of_block (heap_alloc_new w2 _)
          case h63 => have : maxLen = 9223372036854775807 := rfl; omega
          case hb => omega
          case hbase => simp; omega
          intro g3 cap3 w3 hown3 hgrow3 hat3 hlt3
          have hbo := HS2.out.1.bo HV.out.1 HV.out.2 hgrow3
          have co3 : w3.cell? ⟨Bo, 0, none⟩ = some (.slice Av out.length cv) := by simp [World.cell?, hbo]
          have cf3 : w3.frozen? ⟨Bo, 0, none⟩ = false := by simp [World.frozen?, hbo]
          have HS4 := Aside0.mk (HS2.out.1.push (x := (jn, jd)) HV.out.1 hown3 hgrow3)
          have HB4 : Aside0 (Below W0.heap.size W0 (w3.setCell ⟨Bo, 0, none⟩ (.slice (some ⟨g3, 0, none⟩) (out.length + 1) cap3))) := ⟨((HS2.out.2.alloc hB2 _).grown hgrow3 (by simp; omega) (fun j hj => (HV.out.2.lt j hj).1)).setCell HS2.out.1.l5 _⟩
          clear hown3 hgrow3 hat3 hlt3 hbo q1 q2 q3 q4 q5 q6 qf qo co
          go_upto_region 12 with (fail)
          generalize w3.setCell ⟨Bo, 0, none⟩ (.slice (some ⟨g3, 0, none⟩) (out.length + 1) cap3) = w4 at *
          obtain ⟨q1, q2, q3, q4, q5, q6, qf, qo⟩ := HS4.out.cells
          have hw1 : IntKind.i64.wrap (a + jp) = a + jp := by rw [IntKind.wrap_i64]; omega
          have hw2 : IntKind.i64.wrap (jn + 1) = jn + 1 := by rw [IntKind.wrap_i64]; omega
          have hne1 : Bl ≠ Lb := ne_type HS4.out.cl HS4.out.cL (by decide)
          have hne2 : Lb ≠ Bl := hne1.symm
          have hne3 : (Bl == Lb) = false := by simpa using hne1
          have hne4 : (Lb == Bl) = false := by simpa using hne2
          go_region_held3 (fun w' => w'.cell? ⟨Bl, 0, none⟩ = some (.pointer (some ⟨Lb, 0, none⟩))) (first | assumption | go_keep) (fail)
          all_goals
            have hS5 := (((HS4.out.set 1 (.int .i64 f) (L' := ⟨f, L.at', L.next, L.lasts⟩) rfl rfl).set 2 (.int .i64 (a + jp)) (L' := ⟨f, a + jp, L.next, L.lasts⟩) rfl rfl).set 3 (.int .i64 (jn + 1)) (L' := ⟨f, a + jp, jn + 1, L.lasts⟩) rfl rfl).drew
            have hB5 := drew_below (((HB4.out.setCell (p := ⟨Lb, 1, none⟩) HS4.out.l3 (.int .i64 f)).setCell (p := ⟨Lb, 2, none⟩) HS4.out.l3 (.int .i64 (a + jp))).setCell (p := ⟨Lb, 3, none⟩) HS4.out.l3 (.int .i64 (jn + 1)))
            generalize (((w4.setCell ⟨Lb, 1, none⟩ (.int .i64 f)).setCell ⟨Lb, 2, none⟩ (.int .i64 (a + jp))).setCell ⟨Lb, 3, none⟩ (.int .i64 (jn + 1))).drew = w5 at *
            obtain ⟨w6, u6, hS6, gr6⟩ := hS5.note (by omega) (f := f) (z := jn) (Med.wf_small (by omega) (by omega)) (Med.wf_small (by omega) (by omega))
            have HS6 := Aside0.mk hS6
            have HB6 : Aside0 (Below W0.heap.size W0 w6) := ⟨hB5.grown gr6 hB5.size (fun j hj => by have h1 : g = j := (by simpa using hj); have h2 := hS5.l4; omega)⟩
            clear q1 q2 q3 q4 q5 q6 qf qo hne1 hne2 hne3 hne4 hw1 hw2
            obtain ⟨q1, q2, q3, q4, q5, q6, qf, qo⟩ := hS5.cells
            simp only [] at q3 q4 q5
            clear hS5 hB5 hS6 gr6 qf qo
            go_wp2
            go_ret
            exact ⟨rfl, HS6.out, HB6.out⟩
end Go.Proofs.Ytdjcaogffppdhaa.Log
namespace Go.Proofs.Ytdjcaogffppdhaa.Log
open Go.RowKit Go.ChangeMaps Go.Proofs.Ytdjcaogffppdhaa.IMap Go.Proofs.Ytdjcaogffppdhaa.AtX Go.Proofs.Ytdjcaogffppdhaa.App Go.Proofs.Ytdjcaogffppdhaa.SumPure Go.Proofs.Ytdjcaogffppdhaa.Lst
open Go.Proofs.Ytdjcaogffppdhaa.Med (IsMed Med Ranged IsSize IsFiles Filed)
open Go.Proofs.Ytdjcaogffppdhaa.FramesPure
open Go.Proofs.YtdjcaogffppdhaaW.PrintWords Go.Proofs.YtdjcaogffppdhaaW.PrintLast Go.Proofs.YtdjcaogffppdhaaW.PrintMore
attribute [local go_sem ↓] Go.wp_at_zero Go.wp_at_succ
def stepP (M : Med) (S : Lg × List Fr) : Option (Lg × List Fr) :=
  match foundP M S S.1.file S.1.at' with
  | some S' => some S'
  | none => if S.1.at' > 0 then foundP M S (S.1.file + 1) 0 else none
/-- What the frames' reading comes to. -/
inductive Runs (M : Med) : Lg × List Fr → Lg × List Fr → Prop
  | stop {S} : stepP M S = none → Runs M S S
  | go {S S1 S'} : stepP M S = some S1 → Runs M S1 S' → Runs M S S'
theorem Runs.same {M : Med} {S S1 : Lg × List Fr} (h : Runs M S S1) : ∀ {S2}, Runs M S S2 → S1 = S2 := by
  induction h with
  | stop h =>
    intro S2 k
    cases k with
    | stop _ => rfl
    | go h' _ => rw [h] at h'; cases h'
  | go h _ ih =>
    intro S2 k
    cases k with
    | stop h' => rw [h] at h'; cases h'
    | go h' k' => rw [h] at h'; cases h'; exact ih k'
def startP (l : List Int) : Lg × List Fr := (⟨(segsOf l).headD 2, 0, 1, fun _ => none⟩, [])
theorem found_some {M : Med} {S S' : Lg × List Fr} {f a : Int} (h : foundP M S f a = some S') (ha : 0 ≤ a) : 0 ≤ f ∧ f < 1048576 ∧ a < 16 ∧ S'.1.file = f ∧ a < S'.1.at' ∧ S'.1.at' ≤ 16 ∧ S'.2.length = S.2.length + 1 ∧ 2 ≤ S'.1.next ∧ S'.1.next ≤ 2147483648 := by
  unfold foundP at h
  split at h
  · cases h
  · rename_i hc
    have hc1 : (joinP (collect M f (16 - a).toNat a)).2.2.2 = 0 := by
      by_cases e : (joinP (collect M f (16 - a).toNat a)).2.2.2 = 0
      · exact e
      · exact absurd (.inl e) hc
    have hl := collect_len M f (16 - a).toNat a
    rcases join_back (collect M f (16 - a).toNat a) with e | ⟨n, D, ok, h2, h3, e⟩
    · rw [e] at hc1; exact absurd hc1 (by decide)
    · rw [e] at h
      have hp := cnt_pos D.length
      have ha16 : a < 16 := by omega
      have h5 : ((cnt D.length : Nat) : Int) ≤ 16 - a := by omega
      rw [collect_step M f ha16] at h3
      split at h3
      · rename_i hr
        have hrd : M.ready f a 64 = 0 := by
          unfold Med.Med.read at hr
          split at hr
          · assumption
          · rename_i hne; exact absurd hr hne
        obtain ⟨f0, f1, _⟩ := Med.ready_zero hrd
        cases h
        exact ⟨f0, f1, ha16, rfl, by show a < a + (cnt D.length : Int); omega, by show a + (cnt D.length : Int) ≤ 16; omega, by simp, by show 2 ≤ n + 1; have := ok.1; omega, by show n + 1 ≤ 2147483648; have := ok.2.1; omega⟩
      · simp at h3; omega
theorem step_some {M : Med} {S S' : Lg × List Fr} (h : stepP M S = some S') (ha : 0 ≤ S.1.at') (hb : S.1.at' ≤ 16) : 0 ≤ S'.1.file ∧ S'.1.file < 1048576 ∧ 0 < S'.1.at' ∧ S'.1.at' ≤ 16 ∧ (S'.1.file = S.1.file ∧ S.1.at' < S'.1.at' ∨ S'.1.file = S.1.file + 1) ∧ S'.2.length = S.2.length + 1 ∧ 2 ≤ S'.1.next ∧ S'.1.next ≤ 2147483648 := by
  unfold stepP at h
  split at h
  · rename_i S1 h1
    cases h
    obtain ⟨a1, a2, a3, a4, a5, a6, a7, a8, a9⟩ := found_some h1 ha
    exact ⟨by omega, by omega, by omega, a6, .inl ⟨a4, a5⟩, a7, a8, a9⟩
  · split at h
    · obtain ⟨a1, a2, a3, a4, a5, a6, a7, a8, a9⟩ := found_some h (by omega)
      exact ⟨by omega, by omega, a5, a6, .inr a4, a7, a8, a9⟩
    · cases h
set_option maxHeartbeats 4000000 in
set_option maxRecDepth 100000 in
theorem open_nil (w : World) : Calls Try.prog 31 #[.pointer none] w fun e w' => e = .returned (.tuple #[.pointer none, .slice none 0 0, .int .i64 2]) ∧ Below w.heap.size w w' := by
  go_enter Try.func31, Try.ntmps31
  go_wp2
  go_ret3
  exact ⟨rfl, (Below.refl _ w).alloc (Nat.le_refl _) _⟩
set_option maxHeartbeats 8000000 in
set_option maxRecDepth 100000 in
theorem open_off {w : World} {own : Nat → Prop} {bm n : Nat} {M : Med} (h : IsMed w own bm M n) (hoff : M.off = true) : Calls Try.prog 31 #[.pointer (some ⟨bm, 0, none⟩)] w fun e w' => e = .returned (.tuple #[.pointer none, .slice none 0 0, .int .i64 40]) ∧ Below w.heap.size w w' := by
  have hrd := Med.read_calls (h.below ((Below.refl _ w).alloc (Nat.le_refl _) (.cells #[.pointer (some ⟨bm, 0, none⟩)] 22 (0, 0)))) 0 0
  have e : M.read 0 0 = (⟨#[]⟩, 40) := by
    have e1 : M.ready 0 0 64 = 40 := by unfold Med.Med.ready; rw [hoff]; rfl
    unfold Med.Med.read
    rw [e1, if_neg (by decide)]
  rw [e] at hrd
  clear e hoff h
  have HB := Aside0.mk ((Below.refl _ w).alloc (Nat.le_refl _) (.cells #[.pointer (some ⟨bm, 0, none⟩)] 22 (0, 0)))
  go_enter Try.func31, Try.ntmps31
  go_wp2_with (fail)
  refine hrd.mono ?_
  rintro e w1 ⟨rfl, m, hm⟩
  have HB1 := Aside0.mk (drawn_below HB.out m)
  rw [← hm] at HB1
  clear hm
  go_wp2
  go_ret3
  exact ⟨rfl, HB1.out⟩
end Go.Proofs.Ytdjcaogffppdhaa.Log
