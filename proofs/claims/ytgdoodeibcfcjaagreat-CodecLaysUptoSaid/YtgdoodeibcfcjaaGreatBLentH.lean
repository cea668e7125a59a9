/- stevedorekeep.Lent. Printed by blent2.py. -/
import Derived.Test.YtgdoodeibcfcjaaGreatBLent
import Derived.Test.YtgdoodeibcfcjaaGreatBRefL
set_option linter.unusedVariables false
set_option linter.unusedSimpArgs false
namespace Go.Proofs.YtgdoodeibcfcjaaGreat.Wire
open Go.RowKit Go.Proofs.YtgdoodeibcfcjaaGreat.NumsPure Go.Proofs.YtgdoodeibcfcjaaGreat.CPure Go.Proofs.YtgdoodeibcfcjaaGreat.Own
def behJ (j : Nat) : List Value := ([[.string ⟨#[98, 101, 104, 105, 110, 100]⟩, .string ⟨#[]⟩, .int .i64 0, .string ⟨#[]⟩, .int .i64 0, .string ⟨#[]⟩, .int .i64 0, .string ⟨#[]⟩, .int .i64 0, .int .i64 0, .int .i64 0, .bool false, .bool false, .bool false], [.string ⟨#[]⟩, .string ⟨#[98, 101, 104, 105, 110, 100]⟩, .int .i64 0], [.string ⟨#[98, 101, 104, 105, 110, 100]⟩, .string ⟨#[]⟩], [.string ⟨#[98, 101, 104, 105, 110, 100]⟩, .string ⟨#[]⟩, .int .i64 0, .int .i64 0, .int .i64 0, .int .i64 0, .int .i64 0, .bool false], [.string ⟨#[]⟩, .string ⟨#[]⟩, .string ⟨#[]⟩, .int .i64 0, .int .i64 (-77), .int .i64 0], [.string ⟨#[]⟩, .string ⟨#[98, 101, 104, 105, 110, 100]⟩, .int .i64 0], [.string ⟨#[98, 101, 104, 105, 110, 100]⟩, .string ⟨#[]⟩, .string ⟨#[]⟩, .int .i64 0, .int .i64 0, .int .i64 0, .int .i64 0, .int .i64 0, .string ⟨#[]⟩, .int .i64 0, .int .i64 0, .int .i64 0, .int .i64 0, .int .i64 0, .string ⟨#[]⟩, .int .i64 0, .int .i64 0, .int .i64 0, .int .i64 0, .int .i64 0, .string ⟨#[]⟩, .int .i64 0, .int .i64 0, .int .i64 0, .int .i64 0, .int .i64 0, .string ⟨#[]⟩, .int .i64 0, .int .i64 0, .int .i64 0, .int .i64 0, .int .i64 0, .string ⟨#[]⟩, .int .i64 0, .int .i64 0, .int .i64 0, .int .i64 0, .int .i64 0, .string ⟨#[]⟩, .int .i64 0, .int .i64 0, .int .i64 0, .int .i64 0, .int .i64 0, .string ⟨#[]⟩, .int .i64 0, .int .i64 0, .int .i64 0, .int .i64 0, .int .i64 0, .bool false], [.string ⟨#[98, 101, 104, 105, 110, 100]⟩, .string ⟨#[]⟩, .string ⟨#[]⟩, .int .i64 0, .int .i64 0, .int .i64 0, .int .i64 0, .int .i64 0, .string ⟨#[]⟩, .int .i64 0, .int .i64 0, .int .i64 0, .int .i64 0, .int .i64 0, .string ⟨#[]⟩, .int .i64 0, .int .i64 0, .int .i64 0, .int .i64 0, .int .i64 0, .string ⟨#[]⟩, .int .i64 0, .int .i64 0, .int .i64 0, .int .i64 0, .int .i64 0, .string ⟨#[]⟩, .int .i64 0, .int .i64 0, .int .i64 0, .int .i64 0, .int .i64 0, .string ⟨#[]⟩, .int .i64 0, .int .i64 0, .int .i64 0, .int .i64 0, .int .i64 0, .string ⟨#[]⟩, .int .i64 0, .int .i64 0, .int .i64 0, .int .i64 0, .int .i64 0, .string ⟨#[]⟩, .int .i64 0, .int .i64 0, .int .i64 0, .int .i64 0, .int .i64 0], [.string ⟨#[98, 101, 104, 105, 110, 100]⟩, .int .i64 0, .string ⟨#[]⟩, .string ⟨#[]⟩, .string ⟨#[]⟩, .int .i64 0, .int .i64 0, .int .i64 0], [.int .i64 0, .int .i64 0, .string ⟨#[]⟩, .int .i64 0, .string ⟨#[]⟩, .string ⟨#[]⟩, .string ⟨#[]⟩, .int .i64 0, .string ⟨#[98, 101, 104, 105, 110, 100]⟩, .int .i64 0, .string ⟨#[]⟩], [.string ⟨#[98, 101, 104, 105, 110, 100]⟩, .string ⟨#[]⟩], [.string ⟨#[98, 101, 104, 105, 110, 100]⟩, .string ⟨#[]⟩, .string ⟨#[]⟩, .int .i64 0, .int .i64 0], [.string ⟨#[]⟩, .string ⟨#[]⟩, .string ⟨#[]⟩, .int .i64 0, .int .i64 (-77)], [.string ⟨#[]⟩, .string ⟨#[98, 101, 104, 105, 110, 100]⟩, .int .i64 0, .int .i64 0, .int .i64 0, .int .i64 0]] : List (List Value)).getD j []
/-- The state: lists before j are lent. -/
structure LeS (w0 W : World) (hb rk : Nat) (vs : List Value) (R : Nat → List (List Value)) (j : Nat) (cs : List Value) (a : Act) (w : World) : Prop where
  size : a.tmps.size = 74
  defers : a.defers = []
  s1 : a.eval (.tmp 1) = .pointer (some ⟨hb, 0, none⟩)
  s2 : a.eval (.tmp 2) = .pointer (some ⟨rk, 0, none⟩)
  csH : Cs hb 37 cs w
  len : cs.length = 15
  rk_ : ∃ zs, Cs rk 37 zs w ∧ zs.length = 15
  rest : ∀ q, j ≤ q → cs[q]? = vs[q]?
  done : ∀ q, q < j → q < 14 → ∃ A c, cs[q]? = some (.slice A (R q).length c) ∧ RowA w A (szJ q) (ksJ q) c (R q ++ [behJ q]) ∧ ∀ ad, A = some ad → W.heap.size ≤ ad.block
  below : Below w0.heap.size w0 w
  le : W.heap.size ≤ w.heap.size
structure LeOps (S T j d fn f : Nat) (v : Value) (o1 o2 o3 o4 o5 o6 : Oper) : Prop where
  o1 : Is o1 (.fieldAddr 37 (.tmp 1) j) d
  o2 : Is o2 (.load S (.tmp d)) (d + 1)
  o3 : Is o3 (.build T #[(f, .const v)]) (d + 2)
  o4 : o4.guard = none ∧ (∃ tys, o4.op = .call { callee := .value (.func fn), args := #[.tmp (d + 1), .tmp (d + 2)], argTypes := tys }) ∧ o4.dst = some (d + 3)
  o5 : Is o5 (.fieldAddr 37 (.tmp 1) j) (d + 4)
  o6 : o6.guard = none ∧ o6.op = .store S (.tmp (d + 4)) (.tmp (d + 3)) ∧ o6.dst = none
theorem RowA.setCell {w : World} {A : Option Addr} {k c : Nat} {ks : List K} {rows : List (List Value)} (h : RowA w A k ks c rows) {p : Addr} {v : Value} (hn : ∀ ad, A = some ad → ad.block ≠ p.block) : RowA (w.setCell p v) A k ks c rows :=
  ⟨fun hl => by
    obtain ⟨ad, e, hb, hc⟩ := h.at_ hl
    refine ⟨ad, e, by simpa using hb, fun i x hx m u hu => ?_⟩
    rw [World.cell?_of_block (w := w) (by rw [block_of_add]; exact Below.heap_setCell w p v _ (hn ad e))]
    exact hc i x hx m u hu, h.cap, h.fits, h.few⟩
theorem le_step {S T j d fn f sz : Nat} {v : Value} {o1 o2 o3 o4 o5 o6 : Oper} {id hb rk : Nat} {vs cs : List Value} {R : Nat → List (List Value)} {w0 W : World} {a : Act} {w : World} {Q : Exit → Act → World → Prop} (ho : LeOps S T j d fn f v o1 o2 o3 o4 o5 o6) (hj : j < 14) (hd : 3 ≤ d) (hz : d + 4 < 74) (hT : LP S T j sz) (hsz : szJ j = sz) (hS1 : (Tryz.prog.info? S).map (·.size) = some 1)
    (hbuild : ∀ (ρ : Operand → Value) (o : Oper) (w : World), (∀ x, ρ (.const x) = x) → o.op = .build T #[(f, .const v)] → (execOp ρ o).run Tryz.prog w = .ok (.value (.agg (behJ j).toArray)) w)
    (hfn : ∀ vals w, (callFunc fn vals).run Tryz.prog w = .ok (.enter fn vals) w)
    (hlent : ∀ {A : Option Addr} {c : Nat} {rows : List (List Value)} {w : World}, RowA w A (szJ j) (ksJ j) c rows → rows.length ≤ 2000000 → Calls Tryz.prog fn #[.slice A rows.length c, .agg (behJ j).toArray] w (LentR T (szJ j) (ksJ j) rows (behJ j) w))
    (hA : ∃ A c, vs[j]? = some (.slice A (R j).length c) ∧ RowA w0 A (szJ j) (ksJ j) c (R j)) (hfew : (R j).length ≤ 2000000) (hne : rk ≠ hb) (hbW : hb < W.heap.size) (hb0 : w0.heap.size ≤ hb) (hrkW : rk < W.heap.size) (h0 : LeS w0 W hb rk vs R j cs a w)
    (h : ∀ a' w' cs', LeS w0 W hb rk vs R (j + 1) cs' a' w' → Q .normal a' w') : (Code.region id #[o1, o2, o3, o4, o5, o6] false).wp Tryz.prog Q a w := by
  obtain ⟨A, c, hv, hrow⟩ := hA
  have hcell : w.cell? ⟨hb, j, none⟩ = some (.slice A (R j).length c) := by rw [h0.csH.cell, h0.rest j (Nat.le_refl _)]; exact hv
  have hz0 := h0.size
  refine wp_region_list ?_
  show wpList _ _ _ [o1, o2, o3, o4, o5, o6] a w
  refine stp ho.o1 (by omega) (w' := w) (v := .pointer (some ⟨hb, j, none⟩)) (by unfold execOp; simp only [ho.o1.2.1, h0.s1, Sem.run_bind, hT.fa, Result.andThen_ok, Sem.run_pure]) fun a1 l1 v1 => ?_
  refine stp ho.o2 (by rw [l1.size]; omega) (w' := w) (v := .slice A (R j).length c) (by unfold execOp; simp only [ho.o2.2.1, v1]; simp [Instr.loadAt, Instr.sureAddr, loadVar, Sem.run_bind, hT.ag, run_load, hcell]) fun a2 l2 v2 => ?_
  refine stp ho.o3 (by rw [l2.size, l1.size]; omega) (w' := w) (v := .agg (behJ j).toArray) (hbuild _ _ _ (fun x => rfl) ho.o3.2.1) fun a3 l3 v3 => ?_
  have v2' := (l3.low (d + 1) (by omega)).trans v2
  obtain ⟨tys, p4⟩ := ho.o4.2.1
  refine wpList_callR ho.o4.1 fn _ tys p4 #[.slice A (R j).length c, .agg (behJ j).toArray] (by simp only [List.map_toArray, List.map_cons, List.map_nil, v2', v3]) (hfn _ _) _ (hlent (hrow.below h0.below) hfew) ?_
  rintro e w1 ⟨A', c', rfl, hR, hB, hnew⟩
  refine ⟨_, rfl, ?_⟩
  rw [ho.o4.2.2]
  have l4 := (Lo.refl (d + 3) a3).put (d := d + 3) (.slice A' (R j).length c') (Nat.le_refl _)
  have v4 : (a3.put (some (d + 3)) (.slice A' (R j).length c')).eval (.tmp (d + 3)) = .slice A' (R j).length c' := put_same _ (by rw [l3.size, l2.size, l1.size]; omega)
  generalize a3.put (some (d + 3)) (.slice A' (R j).length c') = a4 at l4 v4
  have s1' : a4.eval (.tmp 1) = .pointer (some ⟨hb, 0, none⟩) := (l4.low 1 (by omega)).trans ((l3.low 1 (by omega)).trans ((l2.low 1 (by omega)).trans ((l1.low 1 (by omega)).trans h0.s1)))
  refine stp ho.o5 (by rw [l4.size, l3.size, l2.size, l1.size]; omega) (w' := w1) (v := .pointer (some ⟨hb, j, none⟩)) (by unfold execOp; simp only [ho.o5.2.1, s1', Sem.run_bind, hT.fa, Result.andThen_ok, Sem.run_pure]) fun a5 l5 v5 => ?_
  have hcs1 := h0.csH.keep (hB.block _ h0.csH.lt)
  have hjl : j < cs.length := by rw [h0.len]; omega
  refine wpList_storeV ho.o6.1 S (.tmp (d + 4)) (.tmp (d + 3)) ho.o6.2.1 hb j (.slice A' (R j).length c') [.slice A' (R j).length c'] v5 ((l5.low (d + 3) (by omega)).trans v4) rfl ?_ hS1 (by intro q hq; rw [List.mem_singleton.1 hq]; rfl) ?_
  · intro i hi
    obtain rfl : i = 0 := by simpa using hi
    rw [Nat.add_zero, hcs1.cell, hcs1.frozen]
    exact ⟨by simp [hjl], rfl⟩
  rw [ho.o6.2.2, put_none]
  have hsz5 : a5.tmps.size = 74 := by rw [l5.size, l4.size, l3.size, l2.size, l1.size]; exact hz0
  have hbl1 : hb < w1.heap.size := Nat.lt_of_lt_of_le hbW (Nat.le_trans h0.le hB.size)
  have hle1 : W.heap.size ≤ w1.heap.size := Nat.le_trans h0.le hB.size
  refine wpList_nil (h a5 _ (cs.set j (.slice A' (R j).length c')) ⟨hsz5, ?_, ?_, ?_, hcs1.set j _, by simp [h0.len], ?_, fun q hq => ?_, fun q hq hq14 => ?_, ?_, ?_⟩)
  · rw [l5.defers, l4.defers, l3.defers, l2.defers, l1.defers]; exact h0.defers
  · exact (l5.low 1 (by omega)).trans s1'
  · exact (l5.low 2 (by omega)).trans ((l4.low 2 (by omega)).trans ((l3.low 2 (by omega)).trans ((l2.low 2 (by omega)).trans ((l1.low 2 (by omega)).trans h0.s2))))
  · obtain ⟨zs, hk, hl⟩ := h0.rk_
    exact ⟨zs, (hk.keep (hB.block _ hk.lt)).other ⟨hb, j, none⟩ _ (fun e => hne e.symm), hl⟩
  · rw [List.getElem?_set_ne (by omega)]
    exact h0.rest q (by omega)
  · by_cases e : q = j
    · subst e
      refine ⟨A', c', by rw [List.getElem?_set_self hjl], hR.setCell (p := ⟨hb, q, none⟩) (fun ad ea => ?_), fun ad ea => Nat.le_trans h0.le (hnew ad ea)⟩
      have := hnew ad ea
      have := h0.le
      show ad.block ≠ hb
      omega
    · obtain ⟨A2, c2, e2, hR2, hn2⟩ := h0.done q (by omega) hq14
      refine ⟨A2, c2, by rw [List.getElem?_set_ne (by omega)]; exact e2, (hR2.below hB).setCell (p := ⟨hb, j, none⟩) (fun ad ea => ?_), hn2⟩
      have := hn2 ad ea
      show ad.block ≠ hb
      omega
  · exact (h0.below.trans (hB.mono h0.below.size)).setCell (p := ⟨hb, j, none⟩) hb0 _
  · show W.heap.size ≤ (w1.setCell _ _).heap.size
    simpa using hle1
theorem beh_fits : ∀ j, j < 14 → Fits (ksJ j) (behJ j) := by
  intro j hj
  have : j = 0 ∨ j = 1 ∨ j = 2 ∨ j = 3 ∨ j = 4 ∨ j = 5 ∨ j = 6 ∨ j = 7 ∨ j = 8 ∨ j = 9 ∨ j = 10 ∨ j = 11 ∨ j = 12 ∨ j = 13 := by omega
  rcases this with rfl | rfl | rfl | rfl | rfl | rfl | rfl | rfl | rfl | rfl | rfl | rfl | rfl | rfl
  · exact ⟨_, _, rfl, ⟨_, rfl⟩, ⟨_, _, rfl, ⟨_, rfl⟩, ⟨_, _, rfl, ⟨_, rfl⟩, ⟨_, _, rfl, ⟨_, rfl⟩, ⟨_, _, rfl, ⟨_, rfl⟩, ⟨_, _, rfl, ⟨_, rfl⟩, ⟨_, _, rfl, ⟨_, rfl⟩, ⟨_, _, rfl, ⟨_, rfl⟩, ⟨_, _, rfl, ⟨_, rfl⟩, ⟨_, _, rfl, ⟨_, rfl⟩, ⟨_, _, rfl, ⟨_, rfl⟩, ⟨_, _, rfl, ⟨_, rfl⟩, ⟨_, _, rfl, ⟨_, rfl⟩, ⟨_, _, rfl, ⟨_, rfl⟩, rfl⟩⟩⟩⟩⟩⟩⟩⟩⟩⟩⟩⟩⟩⟩
  · exact ⟨_, _, rfl, ⟨_, rfl⟩, ⟨_, _, rfl, ⟨_, rfl⟩, ⟨_, _, rfl, ⟨_, rfl⟩, rfl⟩⟩⟩
  · exact ⟨_, _, rfl, ⟨_, rfl⟩, ⟨_, _, rfl, ⟨_, rfl⟩, rfl⟩⟩
  · exact ⟨_, _, rfl, ⟨_, rfl⟩, ⟨_, _, rfl, ⟨_, rfl⟩, ⟨_, _, rfl, ⟨_, rfl⟩, ⟨_, _, rfl, ⟨_, rfl⟩, ⟨_, _, rfl, ⟨_, rfl⟩, ⟨_, _, rfl, ⟨_, rfl⟩, ⟨_, _, rfl, ⟨_, rfl⟩, ⟨_, _, rfl, ⟨_, rfl⟩, rfl⟩⟩⟩⟩⟩⟩⟩⟩
  · exact ⟨_, _, rfl, ⟨_, rfl⟩, ⟨_, _, rfl, ⟨_, rfl⟩, ⟨_, _, rfl, ⟨_, rfl⟩, ⟨_, _, rfl, ⟨_, rfl⟩, ⟨_, _, rfl, ⟨_, rfl⟩, ⟨_, _, rfl, ⟨_, rfl⟩, rfl⟩⟩⟩⟩⟩⟩
  · exact ⟨_, _, rfl, ⟨_, rfl⟩, ⟨_, _, rfl, ⟨_, rfl⟩, ⟨_, _, rfl, ⟨_, rfl⟩, rfl⟩⟩⟩
  · exact ⟨_, _, rfl, ⟨_, rfl⟩, ⟨_, _, rfl, ⟨_, rfl⟩, ⟨_, _, rfl, ⟨_, rfl⟩, ⟨_, _, rfl, ⟨_, rfl⟩, ⟨_, _, rfl, ⟨_, rfl⟩, ⟨_, _, rfl, ⟨_, rfl⟩, ⟨_, _, rfl, ⟨_, rfl⟩, ⟨_, _, rfl, ⟨_, rfl⟩, ⟨_, _, rfl, ⟨_, rfl⟩, ⟨_, _, rfl, ⟨_, rfl⟩, ⟨_, _, rfl, ⟨_, rfl⟩, ⟨_, _, rfl, ⟨_, rfl⟩, ⟨_, _, rfl, ⟨_, rfl⟩, ⟨_, _, rfl, ⟨_, rfl⟩, ⟨_, _, rfl, ⟨_, rfl⟩, ⟨_, _, rfl, ⟨_, rfl⟩, ⟨_, _, rfl, ⟨_, rfl⟩, ⟨_, _, rfl, ⟨_, rfl⟩, ⟨_, _, rfl, ⟨_, rfl⟩, ⟨_, _, rfl, ⟨_, rfl⟩, ⟨_, _, rfl, ⟨_, rfl⟩, ⟨_, _, rfl, ⟨_, rfl⟩, ⟨_, _, rfl, ⟨_, rfl⟩, ⟨_, _, rfl, ⟨_, rfl⟩, ⟨_, _, rfl, ⟨_, rfl⟩, ⟨_, _, rfl, ⟨_, rfl⟩, ⟨_, _, rfl, ⟨_, rfl⟩, ⟨_, _, rfl, ⟨_, rfl⟩, ⟨_, _, rfl, ⟨_, rfl⟩, ⟨_, _, rfl, ⟨_, rfl⟩, ⟨_, _, rfl, ⟨_, rfl⟩, ⟨_, _, rfl, ⟨_, rfl⟩, ⟨_, _, rfl, ⟨_, rfl⟩, ⟨_, _, rfl, ⟨_, rfl⟩, ⟨_, _, rfl, ⟨_, rfl⟩, ⟨_, _, rfl, ⟨_, rfl⟩, ⟨_, _, rfl, ⟨_, rfl⟩, ⟨_, _, rfl, ⟨_, rfl⟩, ⟨_, _, rfl, ⟨_, rfl⟩, ⟨_, _, rfl, ⟨_, rfl⟩, ⟨_, _, rfl, ⟨_, rfl⟩, ⟨_, _, rfl, ⟨_, rfl⟩, ⟨_, _, rfl, ⟨_, rfl⟩, ⟨_, _, rfl, ⟨_, rfl⟩, ⟨_, _, rfl, ⟨_, rfl⟩, ⟨_, _, rfl, ⟨_, rfl⟩, ⟨_, _, rfl, ⟨_, rfl⟩, ⟨_, _, rfl, ⟨_, rfl⟩, ⟨_, _, rfl, ⟨_, rfl⟩, ⟨_, _, rfl, ⟨_, rfl⟩, ⟨_, _, rfl, ⟨_, rfl⟩, rfl⟩⟩⟩⟩⟩⟩⟩⟩⟩⟩⟩⟩⟩⟩⟩⟩⟩⟩⟩⟩⟩⟩⟩⟩⟩⟩⟩⟩⟩⟩⟩⟩⟩⟩⟩⟩⟩⟩⟩⟩⟩⟩⟩⟩⟩⟩⟩⟩⟩⟩⟩
  · exact ⟨_, _, rfl, ⟨_, rfl⟩, ⟨_, _, rfl, ⟨_, rfl⟩, ⟨_, _, rfl, ⟨_, rfl⟩, ⟨_, _, rfl, ⟨_, rfl⟩, ⟨_, _, rfl, ⟨_, rfl⟩, ⟨_, _, rfl, ⟨_, rfl⟩, ⟨_, _, rfl, ⟨_, rfl⟩, ⟨_, _, rfl, ⟨_, rfl⟩, ⟨_, _, rfl, ⟨_, rfl⟩, ⟨_, _, rfl, ⟨_, rfl⟩, ⟨_, _, rfl, ⟨_, rfl⟩, ⟨_, _, rfl, ⟨_, rfl⟩, ⟨_, _, rfl, ⟨_, rfl⟩, ⟨_, _, rfl, ⟨_, rfl⟩, ⟨_, _, rfl, ⟨_, rfl⟩, ⟨_, _, rfl, ⟨_, rfl⟩, ⟨_, _, rfl, ⟨_, rfl⟩, ⟨_, _, rfl, ⟨_, rfl⟩, ⟨_, _, rfl, ⟨_, rfl⟩, ⟨_, _, rfl, ⟨_, rfl⟩, ⟨_, _, rfl, ⟨_, rfl⟩, ⟨_, _, rfl, ⟨_, rfl⟩, ⟨_, _, rfl, ⟨_, rfl⟩, ⟨_, _, rfl, ⟨_, rfl⟩, ⟨_, _, rfl, ⟨_, rfl⟩, ⟨_, _, rfl, ⟨_, rfl⟩, ⟨_, _, rfl, ⟨_, rfl⟩, ⟨_, _, rfl, ⟨_, rfl⟩, ⟨_, _, rfl, ⟨_, rfl⟩, ⟨_, _, rfl, ⟨_, rfl⟩, ⟨_, _, rfl, ⟨_, rfl⟩, ⟨_, _, rfl, ⟨_, rfl⟩, ⟨_, _, rfl, ⟨_, rfl⟩, ⟨_, _, rfl, ⟨_, rfl⟩, ⟨_, _, rfl, ⟨_, rfl⟩, ⟨_, _, rfl, ⟨_, rfl⟩, ⟨_, _, rfl, ⟨_, rfl⟩, ⟨_, _, rfl, ⟨_, rfl⟩, ⟨_, _, rfl, ⟨_, rfl⟩, ⟨_, _, rfl, ⟨_, rfl⟩, ⟨_, _, rfl, ⟨_, rfl⟩, ⟨_, _, rfl, ⟨_, rfl⟩, ⟨_, _, rfl, ⟨_, rfl⟩, ⟨_, _, rfl, ⟨_, rfl⟩, ⟨_, _, rfl, ⟨_, rfl⟩, ⟨_, _, rfl, ⟨_, rfl⟩, ⟨_, _, rfl, ⟨_, rfl⟩, ⟨_, _, rfl, ⟨_, rfl⟩, ⟨_, _, rfl, ⟨_, rfl⟩, ⟨_, _, rfl, ⟨_, rfl⟩, rfl⟩⟩⟩⟩⟩⟩⟩⟩⟩⟩⟩⟩⟩⟩⟩⟩⟩⟩⟩⟩⟩⟩⟩⟩⟩⟩⟩⟩⟩⟩⟩⟩⟩⟩⟩⟩⟩⟩⟩⟩⟩⟩⟩⟩⟩⟩⟩⟩⟩⟩
  · exact ⟨_, _, rfl, ⟨_, rfl⟩, ⟨_, _, rfl, ⟨_, rfl⟩, ⟨_, _, rfl, ⟨_, rfl⟩, ⟨_, _, rfl, ⟨_, rfl⟩, ⟨_, _, rfl, ⟨_, rfl⟩, ⟨_, _, rfl, ⟨_, rfl⟩, ⟨_, _, rfl, ⟨_, rfl⟩, ⟨_, _, rfl, ⟨_, rfl⟩, rfl⟩⟩⟩⟩⟩⟩⟩⟩
  · exact ⟨_, _, rfl, ⟨_, rfl⟩, ⟨_, _, rfl, ⟨_, rfl⟩, ⟨_, _, rfl, ⟨_, rfl⟩, ⟨_, _, rfl, ⟨_, rfl⟩, ⟨_, _, rfl, ⟨_, rfl⟩, ⟨_, _, rfl, ⟨_, rfl⟩, ⟨_, _, rfl, ⟨_, rfl⟩, ⟨_, _, rfl, ⟨_, rfl⟩, ⟨_, _, rfl, ⟨_, rfl⟩, ⟨_, _, rfl, ⟨_, rfl⟩, ⟨_, _, rfl, ⟨_, rfl⟩, rfl⟩⟩⟩⟩⟩⟩⟩⟩⟩⟩⟩
  · exact ⟨_, _, rfl, ⟨_, rfl⟩, ⟨_, _, rfl, ⟨_, rfl⟩, rfl⟩⟩
  · exact ⟨_, _, rfl, ⟨_, rfl⟩, ⟨_, _, rfl, ⟨_, rfl⟩, ⟨_, _, rfl, ⟨_, rfl⟩, ⟨_, _, rfl, ⟨_, rfl⟩, ⟨_, _, rfl, ⟨_, rfl⟩, rfl⟩⟩⟩⟩⟩
  · exact ⟨_, _, rfl, ⟨_, rfl⟩, ⟨_, _, rfl, ⟨_, rfl⟩, ⟨_, _, rfl, ⟨_, rfl⟩, ⟨_, _, rfl, ⟨_, rfl⟩, ⟨_, _, rfl, ⟨_, rfl⟩, rfl⟩⟩⟩⟩⟩
  · exact ⟨_, _, rfl, ⟨_, rfl⟩, ⟨_, _, rfl, ⟨_, rfl⟩, ⟨_, _, rfl, ⟨_, rfl⟩, ⟨_, _, rfl, ⟨_, rfl⟩, ⟨_, _, rfl, ⟨_, rfl⟩, ⟨_, _, rfl, ⟨_, rfl⟩, rfl⟩⟩⟩⟩⟩⟩
theorem bd_item (ρ : Operand → Value) (o : Oper) (w : World) (hc : ∀ x, ρ (.const x) = x) (p : o.op = .build 59 #[(0, .const (.string ⟨#[98, 101, 104, 105, 110, 100]⟩))]) : (execOp ρ o).run Tryz.prog w = .ok (.value (.agg (behJ 0).toArray)) w := by
  unfold execOp
  simp [p, go_sem, hc, behJ]
theorem lent_item {A : Option Addr} {c : Nat} {rows : List (List Value)} {w : World} (hr : RowA w A (szJ 0) (ksJ 0) c rows) (hl : rows.length ≤ 2000000) : Calls Tryz.prog 16 #[.slice A rows.length c, .agg (behJ 0).toArray] w (LentR 59 (szJ 0) (ksJ 0) rows (behJ 0) w) :=
  lent_any (S := 22) (f := Tryz.f16) Tryz.func16 rfl rfl rfl ⟨⟨rfl, rfl, rfl⟩, ⟨rfl, rfl, rfl⟩, ⟨rfl, rfl, rfl⟩, ⟨rfl, rfl, rfl⟩, ⟨_, rfl, rfl, rfl⟩, ⟨rfl, rfl, rfl⟩, ⟨rfl, rfl, rfl⟩, ⟨rfl, rfl, rfl⟩, ⟨rfl, rfl, rfl⟩, ⟨rfl, rfl, rfl⟩, ⟨rfl, rfl, rfl⟩, ⟨rfl, rfl, rfl⟩, ⟨rfl, rfl, rfl⟩, ⟨rfl, rfl, rfl⟩, ⟨rfl, rfl, rfl⟩, ⟨rfl, rfl, rfl⟩, ⟨rfl, rfl, rfl⟩, ⟨rfl, rfl, rfl⟩, ⟨rfl, rfl, rfl⟩, ⟨rfl, rfl, rfl⟩, ⟨rfl, rfl, rfl⟩⟩ Tryz.underlying22 Tryz.underlying59 rfl info_item rfl rfl (by decide) (by decide) (by decide) hr (beh_fits 0 (by decide)) hl
theorem bd_lot (ρ : Operand → Value) (o : Oper) (w : World) (hc : ∀ x, ρ (.const x) = x) (p : o.op = .build 62 #[(1, .const (.string ⟨#[98, 101, 104, 105, 110, 100]⟩))]) : (execOp ρ o).run Tryz.prog w = .ok (.value (.agg (behJ 1).toArray)) w := by
  unfold execOp
  simp [p, go_sem, hc, behJ]
theorem lent_lot {A : Option Addr} {c : Nat} {rows : List (List Value)} {w : World} (hr : RowA w A (szJ 1) (ksJ 1) c rows) (hl : rows.length ≤ 2000000) : Calls Tryz.prog 17 #[.slice A rows.length c, .agg (behJ 1).toArray] w (LentR 62 (szJ 1) (ksJ 1) rows (behJ 1) w) :=
  lent_any (S := 23) (f := Tryz.f17) Tryz.func17 rfl rfl rfl ⟨⟨rfl, rfl, rfl⟩, ⟨rfl, rfl, rfl⟩, ⟨rfl, rfl, rfl⟩, ⟨rfl, rfl, rfl⟩, ⟨_, rfl, rfl, rfl⟩, ⟨rfl, rfl, rfl⟩, ⟨rfl, rfl, rfl⟩, ⟨rfl, rfl, rfl⟩, ⟨rfl, rfl, rfl⟩, ⟨rfl, rfl, rfl⟩, ⟨rfl, rfl, rfl⟩, ⟨rfl, rfl, rfl⟩, ⟨rfl, rfl, rfl⟩, ⟨rfl, rfl, rfl⟩, ⟨rfl, rfl, rfl⟩, ⟨rfl, rfl, rfl⟩, ⟨rfl, rfl, rfl⟩, ⟨rfl, rfl, rfl⟩, ⟨rfl, rfl, rfl⟩, ⟨rfl, rfl, rfl⟩, ⟨rfl, rfl, rfl⟩⟩ Tryz.underlying23 Tryz.underlying62 rfl info_lot rfl rfl (by decide) (by decide) (by decide) hr (beh_fits 1 (by decide)) hl
theorem bd_zone (ρ : Operand → Value) (o : Oper) (w : World) (hc : ∀ x, ρ (.const x) = x) (p : o.op = .build 65 #[(0, .const (.string ⟨#[98, 101, 104, 105, 110, 100]⟩))]) : (execOp ρ o).run Tryz.prog w = .ok (.value (.agg (behJ 2).toArray)) w := by
  unfold execOp
  simp [p, go_sem, hc, behJ]
theorem lent_zone {A : Option Addr} {c : Nat} {rows : List (List Value)} {w : World} (hr : RowA w A (szJ 2) (ksJ 2) c rows) (hl : rows.length ≤ 2000000) : Calls Tryz.prog 18 #[.slice A rows.length c, .agg (behJ 2).toArray] w (LentR 65 (szJ 2) (ksJ 2) rows (behJ 2) w) :=
  lent_any (S := 24) (f := Tryz.f18) Tryz.func18 rfl rfl rfl ⟨⟨rfl, rfl, rfl⟩, ⟨rfl, rfl, rfl⟩, ⟨rfl, rfl, rfl⟩, ⟨rfl, rfl, rfl⟩, ⟨_, rfl, rfl, rfl⟩, ⟨rfl, rfl, rfl⟩, ⟨rfl, rfl, rfl⟩, ⟨rfl, rfl, rfl⟩, ⟨rfl, rfl, rfl⟩, ⟨rfl, rfl, rfl⟩, ⟨rfl, rfl, rfl⟩, ⟨rfl, rfl, rfl⟩, ⟨rfl, rfl, rfl⟩, ⟨rfl, rfl, rfl⟩, ⟨rfl, rfl, rfl⟩, ⟨rfl, rfl, rfl⟩, ⟨rfl, rfl, rfl⟩, ⟨rfl, rfl, rfl⟩, ⟨rfl, rfl, rfl⟩, ⟨rfl, rfl, rfl⟩, ⟨rfl, rfl, rfl⟩⟩ Tryz.underlying24 Tryz.underlying65 rfl info_zone rfl rfl (by decide) (by decide) (by decide) hr (beh_fits 2 (by decide)) hl
theorem bd_bin (ρ : Operand → Value) (o : Oper) (w : World) (hc : ∀ x, ρ (.const x) = x) (p : o.op = .build 68 #[(0, .const (.string ⟨#[98, 101, 104, 105, 110, 100]⟩))]) : (execOp ρ o).run Tryz.prog w = .ok (.value (.agg (behJ 3).toArray)) w := by
  unfold execOp
  simp [p, go_sem, hc, behJ]
theorem lent_bin {A : Option Addr} {c : Nat} {rows : List (List Value)} {w : World} (hr : RowA w A (szJ 3) (ksJ 3) c rows) (hl : rows.length ≤ 2000000) : Calls Tryz.prog 19 #[.slice A rows.length c, .agg (behJ 3).toArray] w (LentR 68 (szJ 3) (ksJ 3) rows (behJ 3) w) :=
  lent_any (S := 25) (f := Tryz.f19) Tryz.func19 rfl rfl rfl ⟨⟨rfl, rfl, rfl⟩, ⟨rfl, rfl, rfl⟩, ⟨rfl, rfl, rfl⟩, ⟨rfl, rfl, rfl⟩, ⟨_, rfl, rfl, rfl⟩, ⟨rfl, rfl, rfl⟩, ⟨rfl, rfl, rfl⟩, ⟨rfl, rfl, rfl⟩, ⟨rfl, rfl, rfl⟩, ⟨rfl, rfl, rfl⟩, ⟨rfl, rfl, rfl⟩, ⟨rfl, rfl, rfl⟩, ⟨rfl, rfl, rfl⟩, ⟨rfl, rfl, rfl⟩, ⟨rfl, rfl, rfl⟩, ⟨rfl, rfl, rfl⟩, ⟨rfl, rfl, rfl⟩, ⟨rfl, rfl, rfl⟩, ⟨rfl, rfl, rfl⟩, ⟨rfl, rfl, rfl⟩, ⟨rfl, rfl, rfl⟩⟩ Tryz.underlying25 Tryz.underlying68 rfl info_bin rfl rfl (by decide) (by decide) (by decide) hr (beh_fits 3 (by decide)) hl
theorem bd_quant (ρ : Operand → Value) (o : Oper) (w : World) (hc : ∀ x, ρ (.const x) = x) (p : o.op = .build 73 #[(1, .const (.int .i64 (-77)))]) : (execOp ρ o).run Tryz.prog w = .ok (.value (.agg (behJ 4).toArray)) w := by
  unfold execOp
  simp [p, go_sem, hc, behJ]
theorem lent_quant {A : Option Addr} {c : Nat} {rows : List (List Value)} {w : World} (hr : RowA w A (szJ 4) (ksJ 4) c rows) (hl : rows.length ≤ 2000000) : Calls Tryz.prog 20 #[.slice A rows.length c, .agg (behJ 4).toArray] w (LentR 73 (szJ 4) (ksJ 4) rows (behJ 4) w) :=
  lent_any (S := 26) (f := Tryz.f20) Tryz.func20 rfl rfl rfl ⟨⟨rfl, rfl, rfl⟩, ⟨rfl, rfl, rfl⟩, ⟨rfl, rfl, rfl⟩, ⟨rfl, rfl, rfl⟩, ⟨_, rfl, rfl, rfl⟩, ⟨rfl, rfl, rfl⟩, ⟨rfl, rfl, rfl⟩, ⟨rfl, rfl, rfl⟩, ⟨rfl, rfl, rfl⟩, ⟨rfl, rfl, rfl⟩, ⟨rfl, rfl, rfl⟩, ⟨rfl, rfl, rfl⟩, ⟨rfl, rfl, rfl⟩, ⟨rfl, rfl, rfl⟩, ⟨rfl, rfl, rfl⟩, ⟨rfl, rfl, rfl⟩, ⟨rfl, rfl, rfl⟩, ⟨rfl, rfl, rfl⟩, ⟨rfl, rfl, rfl⟩, ⟨rfl, rfl, rfl⟩, ⟨rfl, rfl, rfl⟩⟩ Tryz.underlying26 Tryz.underlying73 rfl info_quant rfl rfl (by decide) (by decide) (by decide) hr (beh_fits 4 (by decide)) hl
theorem bd_rule (ρ : Operand → Value) (o : Oper) (w : World) (hc : ∀ x, ρ (.const x) = x) (p : o.op = .build 76 #[(1, .const (.string ⟨#[98, 101, 104, 105, 110, 100]⟩))]) : (execOp ρ o).run Tryz.prog w = .ok (.value (.agg (behJ 5).toArray)) w := by
  unfold execOp
  simp [p, go_sem, hc, behJ]
theorem lent_rule {A : Option Addr} {c : Nat} {rows : List (List Value)} {w : World} (hr : RowA w A (szJ 5) (ksJ 5) c rows) (hl : rows.length ≤ 2000000) : Calls Tryz.prog 21 #[.slice A rows.length c, .agg (behJ 5).toArray] w (LentR 76 (szJ 5) (ksJ 5) rows (behJ 5) w) :=
  lent_any (S := 27) (f := Tryz.f21) Tryz.func21 rfl rfl rfl ⟨⟨rfl, rfl, rfl⟩, ⟨rfl, rfl, rfl⟩, ⟨rfl, rfl, rfl⟩, ⟨rfl, rfl, rfl⟩, ⟨_, rfl, rfl, rfl⟩, ⟨rfl, rfl, rfl⟩, ⟨rfl, rfl, rfl⟩, ⟨rfl, rfl, rfl⟩, ⟨rfl, rfl, rfl⟩, ⟨rfl, rfl, rfl⟩, ⟨rfl, rfl, rfl⟩, ⟨rfl, rfl, rfl⟩, ⟨rfl, rfl, rfl⟩, ⟨rfl, rfl, rfl⟩, ⟨rfl, rfl, rfl⟩, ⟨rfl, rfl, rfl⟩, ⟨rfl, rfl, rfl⟩, ⟨rfl, rfl, rfl⟩, ⟨rfl, rfl, rfl⟩, ⟨rfl, rfl, rfl⟩, ⟨rfl, rfl, rfl⟩⟩ Tryz.underlying27 Tryz.underlying76 rfl info_rule rfl rfl (by decide) (by decide) (by decide) hr (beh_fits 5 (by decide)) hl
theorem bd_notice (ρ : Operand → Value) (o : Oper) (w : World) (hc : ∀ x, ρ (.const x) = x) (p : o.op = .build 82 #[(0, .const (.string ⟨#[98, 101, 104, 105, 110, 100]⟩))]) : (execOp ρ o).run Tryz.prog w = .ok (.value (.agg (behJ 6).toArray)) w := by
  unfold execOp
  simp [p, go_sem, hc, behJ]
theorem lent_notice {A : Option Addr} {c : Nat} {rows : List (List Value)} {w : World} (hr : RowA w A (szJ 6) (ksJ 6) c rows) (hl : rows.length ≤ 2000000) : Calls Tryz.prog 22 #[.slice A rows.length c, .agg (behJ 6).toArray] w (LentR 82 (szJ 6) (ksJ 6) rows (behJ 6) w) :=
  lent_any (S := 28) (f := Tryz.f22) Tryz.func22 rfl rfl rfl ⟨⟨rfl, rfl, rfl⟩, ⟨rfl, rfl, rfl⟩, ⟨rfl, rfl, rfl⟩, ⟨rfl, rfl, rfl⟩, ⟨_, rfl, rfl, rfl⟩, ⟨rfl, rfl, rfl⟩, ⟨rfl, rfl, rfl⟩, ⟨rfl, rfl, rfl⟩, ⟨rfl, rfl, rfl⟩, ⟨rfl, rfl, rfl⟩, ⟨rfl, rfl, rfl⟩, ⟨rfl, rfl, rfl⟩, ⟨rfl, rfl, rfl⟩, ⟨rfl, rfl, rfl⟩, ⟨rfl, rfl, rfl⟩, ⟨rfl, rfl, rfl⟩, ⟨rfl, rfl, rfl⟩, ⟨rfl, rfl, rfl⟩, ⟨rfl, rfl, rfl⟩, ⟨rfl, rfl, rfl⟩, ⟨rfl, rfl, rfl⟩⟩ Tryz.underlying28 Tryz.underlying82 rfl info_notice rfl rfl (by decide) (by decide) (by decide) hr (beh_fits 6 (by decide)) hl
theorem bd_order (ρ : Operand → Value) (o : Oper) (w : World) (hc : ∀ x, ρ (.const x) = x) (p : o.op = .build 85 #[(0, .const (.string ⟨#[98, 101, 104, 105, 110, 100]⟩))]) : (execOp ρ o).run Tryz.prog w = .ok (.value (.agg (behJ 7).toArray)) w := by
  unfold execOp
  simp [p, go_sem, hc, behJ]
theorem lent_order {A : Option Addr} {c : Nat} {rows : List (List Value)} {w : World} (hr : RowA w A (szJ 7) (ksJ 7) c rows) (hl : rows.length ≤ 2000000) : Calls Tryz.prog 23 #[.slice A rows.length c, .agg (behJ 7).toArray] w (LentR 85 (szJ 7) (ksJ 7) rows (behJ 7) w) :=
  lent_any (S := 29) (f := Tryz.f23) Tryz.func23 rfl rfl rfl ⟨⟨rfl, rfl, rfl⟩, ⟨rfl, rfl, rfl⟩, ⟨rfl, rfl, rfl⟩, ⟨rfl, rfl, rfl⟩, ⟨_, rfl, rfl, rfl⟩, ⟨rfl, rfl, rfl⟩, ⟨rfl, rfl, rfl⟩, ⟨rfl, rfl, rfl⟩, ⟨rfl, rfl, rfl⟩, ⟨rfl, rfl, rfl⟩, ⟨rfl, rfl, rfl⟩, ⟨rfl, rfl, rfl⟩, ⟨rfl, rfl, rfl⟩, ⟨rfl, rfl, rfl⟩, ⟨rfl, rfl, rfl⟩, ⟨rfl, rfl, rfl⟩, ⟨rfl, rfl, rfl⟩, ⟨rfl, rfl, rfl⟩, ⟨rfl, rfl, rfl⟩, ⟨rfl, rfl, rfl⟩, ⟨rfl, rfl, rfl⟩⟩ Tryz.underlying29 Tryz.underlying85 rfl info_order rfl rfl (by decide) (by decide) (by decide) hr (beh_fits 7 (by decide)) hl
theorem bd_claim (ρ : Operand → Value) (o : Oper) (w : World) (hc : ∀ x, ρ (.const x) = x) (p : o.op = .build 88 #[(0, .const (.string ⟨#[98, 101, 104, 105, 110, 100]⟩))]) : (execOp ρ o).run Tryz.prog w = .ok (.value (.agg (behJ 8).toArray)) w := by
  unfold execOp
  simp [p, go_sem, hc, behJ]
theorem lent_claim {A : Option Addr} {c : Nat} {rows : List (List Value)} {w : World} (hr : RowA w A (szJ 8) (ksJ 8) c rows) (hl : rows.length ≤ 2000000) : Calls Tryz.prog 24 #[.slice A rows.length c, .agg (behJ 8).toArray] w (LentR 88 (szJ 8) (ksJ 8) rows (behJ 8) w) :=
  lent_any (S := 30) (f := Tryz.f24) Tryz.func24 rfl rfl rfl ⟨⟨rfl, rfl, rfl⟩, ⟨rfl, rfl, rfl⟩, ⟨rfl, rfl, rfl⟩, ⟨rfl, rfl, rfl⟩, ⟨_, rfl, rfl, rfl⟩, ⟨rfl, rfl, rfl⟩, ⟨rfl, rfl, rfl⟩, ⟨rfl, rfl, rfl⟩, ⟨rfl, rfl, rfl⟩, ⟨rfl, rfl, rfl⟩, ⟨rfl, rfl, rfl⟩, ⟨rfl, rfl, rfl⟩, ⟨rfl, rfl, rfl⟩, ⟨rfl, rfl, rfl⟩, ⟨rfl, rfl, rfl⟩, ⟨rfl, rfl, rfl⟩, ⟨rfl, rfl, rfl⟩, ⟨rfl, rfl, rfl⟩, ⟨rfl, rfl, rfl⟩, ⟨rfl, rfl, rfl⟩, ⟨rfl, rfl, rfl⟩⟩ Tryz.underlying30 Tryz.underlying88 rfl info_claim rfl rfl (by decide) (by decide) (by decide) hr (beh_fits 8 (by decide)) hl
theorem bd_task (ρ : Operand → Value) (o : Oper) (w : World) (hc : ∀ x, ρ (.const x) = x) (p : o.op = .build 91 #[(5, .const (.string ⟨#[98, 101, 104, 105, 110, 100]⟩))]) : (execOp ρ o).run Tryz.prog w = .ok (.value (.agg (behJ 9).toArray)) w := by
  unfold execOp
  simp [p, go_sem, hc, behJ]
theorem lent_task {A : Option Addr} {c : Nat} {rows : List (List Value)} {w : World} (hr : RowA w A (szJ 9) (ksJ 9) c rows) (hl : rows.length ≤ 2000000) : Calls Tryz.prog 25 #[.slice A rows.length c, .agg (behJ 9).toArray] w (LentR 91 (szJ 9) (ksJ 9) rows (behJ 9) w) :=
  lent_any (S := 31) (f := Tryz.f25) Tryz.func25 rfl rfl rfl ⟨⟨rfl, rfl, rfl⟩, ⟨rfl, rfl, rfl⟩, ⟨rfl, rfl, rfl⟩, ⟨rfl, rfl, rfl⟩, ⟨_, rfl, rfl, rfl⟩, ⟨rfl, rfl, rfl⟩, ⟨rfl, rfl, rfl⟩, ⟨rfl, rfl, rfl⟩, ⟨rfl, rfl, rfl⟩, ⟨rfl, rfl, rfl⟩, ⟨rfl, rfl, rfl⟩, ⟨rfl, rfl, rfl⟩, ⟨rfl, rfl, rfl⟩, ⟨rfl, rfl, rfl⟩, ⟨rfl, rfl, rfl⟩, ⟨rfl, rfl, rfl⟩, ⟨rfl, rfl, rfl⟩, ⟨rfl, rfl, rfl⟩, ⟨rfl, rfl, rfl⟩, ⟨rfl, rfl, rfl⟩, ⟨rfl, rfl, rfl⟩⟩ Tryz.underlying31 Tryz.underlying91 rfl info_task rfl rfl (by decide) (by decide) (by decide) hr (beh_fits 9 (by decide)) hl
theorem bd_parcel (ρ : Operand → Value) (o : Oper) (w : World) (hc : ∀ x, ρ (.const x) = x) (p : o.op = .build 94 #[(0, .const (.string ⟨#[98, 101, 104, 105, 110, 100]⟩))]) : (execOp ρ o).run Tryz.prog w = .ok (.value (.agg (behJ 10).toArray)) w := by
  unfold execOp
  simp [p, go_sem, hc, behJ]
theorem lent_parcel {A : Option Addr} {c : Nat} {rows : List (List Value)} {w : World} (hr : RowA w A (szJ 10) (ksJ 10) c rows) (hl : rows.length ≤ 2000000) : Calls Tryz.prog 26 #[.slice A rows.length c, .agg (behJ 10).toArray] w (LentR 94 (szJ 10) (ksJ 10) rows (behJ 10) w) :=
  lent_any (S := 32) (f := Tryz.f26) Tryz.func26 rfl rfl rfl ⟨⟨rfl, rfl, rfl⟩, ⟨rfl, rfl, rfl⟩, ⟨rfl, rfl, rfl⟩, ⟨rfl, rfl, rfl⟩, ⟨_, rfl, rfl, rfl⟩, ⟨rfl, rfl, rfl⟩, ⟨rfl, rfl, rfl⟩, ⟨rfl, rfl, rfl⟩, ⟨rfl, rfl, rfl⟩, ⟨rfl, rfl, rfl⟩, ⟨rfl, rfl, rfl⟩, ⟨rfl, rfl, rfl⟩, ⟨rfl, rfl, rfl⟩, ⟨rfl, rfl, rfl⟩, ⟨rfl, rfl, rfl⟩, ⟨rfl, rfl, rfl⟩, ⟨rfl, rfl, rfl⟩, ⟨rfl, rfl, rfl⟩, ⟨rfl, rfl, rfl⟩, ⟨rfl, rfl, rfl⟩, ⟨rfl, rfl, rfl⟩⟩ Tryz.underlying32 Tryz.underlying94 rfl info_parcel rfl rfl (by decide) (by decide) (by decide) hr (beh_fits 10 (by decide)) hl
theorem bd_sent (ρ : Operand → Value) (o : Oper) (w : World) (hc : ∀ x, ρ (.const x) = x) (p : o.op = .build 97 #[(0, .const (.string ⟨#[98, 101, 104, 105, 110, 100]⟩))]) : (execOp ρ o).run Tryz.prog w = .ok (.value (.agg (behJ 11).toArray)) w := by
  unfold execOp
  simp [p, go_sem, hc, behJ]
theorem lent_sent {A : Option Addr} {c : Nat} {rows : List (List Value)} {w : World} (hr : RowA w A (szJ 11) (ksJ 11) c rows) (hl : rows.length ≤ 2000000) : Calls Tryz.prog 27 #[.slice A rows.length c, .agg (behJ 11).toArray] w (LentR 97 (szJ 11) (ksJ 11) rows (behJ 11) w) :=
  lent_any (S := 33) (f := Tryz.f27) Tryz.func27 rfl rfl rfl ⟨⟨rfl, rfl, rfl⟩, ⟨rfl, rfl, rfl⟩, ⟨rfl, rfl, rfl⟩, ⟨rfl, rfl, rfl⟩, ⟨_, rfl, rfl, rfl⟩, ⟨rfl, rfl, rfl⟩, ⟨rfl, rfl, rfl⟩, ⟨rfl, rfl, rfl⟩, ⟨rfl, rfl, rfl⟩, ⟨rfl, rfl, rfl⟩, ⟨rfl, rfl, rfl⟩, ⟨rfl, rfl, rfl⟩, ⟨rfl, rfl, rfl⟩, ⟨rfl, rfl, rfl⟩, ⟨rfl, rfl, rfl⟩, ⟨rfl, rfl, rfl⟩, ⟨rfl, rfl, rfl⟩, ⟨rfl, rfl, rfl⟩, ⟨rfl, rfl, rfl⟩, ⟨rfl, rfl, rfl⟩, ⟨rfl, rfl, rfl⟩⟩ Tryz.underlying33 Tryz.underlying97 rfl info_sent rfl rfl (by decide) (by decide) (by decide) hr (beh_fits 11 (by decide)) hl
theorem bd_counted (ρ : Operand → Value) (o : Oper) (w : World) (hc : ∀ x, ρ (.const x) = x) (p : o.op = .build 100 #[(1, .const (.int .i64 (-77)))]) : (execOp ρ o).run Tryz.prog w = .ok (.value (.agg (behJ 12).toArray)) w := by
  unfold execOp
  simp [p, go_sem, hc, behJ]
theorem lent_counted {A : Option Addr} {c : Nat} {rows : List (List Value)} {w : World} (hr : RowA w A (szJ 12) (ksJ 12) c rows) (hl : rows.length ≤ 2000000) : Calls Tryz.prog 28 #[.slice A rows.length c, .agg (behJ 12).toArray] w (LentR 100 (szJ 12) (ksJ 12) rows (behJ 12) w) :=
  lent_any (S := 34) (f := Tryz.f28) Tryz.func28 rfl rfl rfl ⟨⟨rfl, rfl, rfl⟩, ⟨rfl, rfl, rfl⟩, ⟨rfl, rfl, rfl⟩, ⟨rfl, rfl, rfl⟩, ⟨_, rfl, rfl, rfl⟩, ⟨rfl, rfl, rfl⟩, ⟨rfl, rfl, rfl⟩, ⟨rfl, rfl, rfl⟩, ⟨rfl, rfl, rfl⟩, ⟨rfl, rfl, rfl⟩, ⟨rfl, rfl, rfl⟩, ⟨rfl, rfl, rfl⟩, ⟨rfl, rfl, rfl⟩, ⟨rfl, rfl, rfl⟩, ⟨rfl, rfl, rfl⟩, ⟨rfl, rfl, rfl⟩, ⟨rfl, rfl, rfl⟩, ⟨rfl, rfl, rfl⟩, ⟨rfl, rfl, rfl⟩, ⟨rfl, rfl, rfl⟩, ⟨rfl, rfl, rfl⟩⟩ Tryz.underlying34 Tryz.underlying100 rfl info_counted rfl rfl (by decide) (by decide) (by decide) hr (beh_fits 12 (by decide)) hl
theorem bd_total (ρ : Operand → Value) (o : Oper) (w : World) (hc : ∀ x, ρ (.const x) = x) (p : o.op = .build 103 #[(1, .const (.string ⟨#[98, 101, 104, 105, 110, 100]⟩))]) : (execOp ρ o).run Tryz.prog w = .ok (.value (.agg (behJ 13).toArray)) w := by
  unfold execOp
  simp [p, go_sem, hc, behJ]
theorem lent_total {A : Option Addr} {c : Nat} {rows : List (List Value)} {w : World} (hr : RowA w A (szJ 13) (ksJ 13) c rows) (hl : rows.length ≤ 2000000) : Calls Tryz.prog 29 #[.slice A rows.length c, .agg (behJ 13).toArray] w (LentR 103 (szJ 13) (ksJ 13) rows (behJ 13) w) :=
  lent_any (S := 35) (f := Tryz.f29) Tryz.func29 rfl rfl rfl ⟨⟨rfl, rfl, rfl⟩, ⟨rfl, rfl, rfl⟩, ⟨rfl, rfl, rfl⟩, ⟨rfl, rfl, rfl⟩, ⟨_, rfl, rfl, rfl⟩, ⟨rfl, rfl, rfl⟩, ⟨rfl, rfl, rfl⟩, ⟨rfl, rfl, rfl⟩, ⟨rfl, rfl, rfl⟩, ⟨rfl, rfl, rfl⟩, ⟨rfl, rfl, rfl⟩, ⟨rfl, rfl, rfl⟩, ⟨rfl, rfl, rfl⟩, ⟨rfl, rfl, rfl⟩, ⟨rfl, rfl, rfl⟩, ⟨rfl, rfl, rfl⟩, ⟨rfl, rfl, rfl⟩, ⟨rfl, rfl, rfl⟩, ⟨rfl, rfl, rfl⟩, ⟨rfl, rfl, rfl⟩, ⟨rfl, rfl, rfl⟩⟩ Tryz.underlying35 Tryz.underlying103 rfl info_total rfl rfl (by decide) (by decide) (by decide) hr (beh_fits 13 (by decide)) hl
end Go.Proofs.YtgdoodeibcfcjaaGreat.Wire
