/- The reference's House: the count's step down, a list's loop, a list whole. -/
import Derived.Test.YtgdoodeibcfcjaaCRHouseL
import Derived.Test.YtgdoodeibcfcjaaCTherePure
import Derived.IntWalk
set_option linter.unusedVariables false
set_option linter.unusedSimpArgs false
namespace Go.Proofs.Ytgdoodeibcfcjaa.Wire
open Go.RowKit Go.Proofs.Ytgdoodeibcfcjaa.NumsPure Go.Proofs.Ytgdoodeibcfcjaa.CPure Go.Proofs.Ytgdoodeibcfcjaa.Own
structure DecrOps (c d : Nat) (o1 o2 o3 : Oper) : Prop where
  g1 : o1.guard = none
  g2 : o2.guard = none
  g3 : o3.guard = none
  p1 : o1.op = .move (.tmp c)
  p2 : ∃ r, o2.op = .binOp .sub 3 (.tmp d) (.const (.int .i64 1)) r
  p3 : o3.op = .assign (.tmp (d + 1))
  d1 : o1.dst = some d
  d2 : o2.dst = some (d + 1)
  d3 : o3.dst = some c
theorem decr_step {c d : Nat} {o1 o2 o3 : Oper} {id N rk rb hb m : Nat} {a : Act} {w : World} {Q : Exit → Act → World → Prop} (ho : DecrOps c d o1 o2 o3) (hd : 35 ≤ d) (hc : c < 35) (hc2 : 5 < c) (hN : d + 1 < N) (hm : m ≤ 100000000) (hH : Hd N c rk rb hb (m + 1) a)
    (h : ∀ a', Hd N c rk rb hb m a' → Q .normal a' w) : (Code.region id #[o1, o2, o3] false).wp Try.prog Q a w := by
  refine wp_region_list ?_
  show wpList _ _ _ [o1, o2, o3] a w
  refine wpList_mv ho.g1 (.tmp c) (.inl ho.p1) ?_
  obtain ⟨z, hz⟩ : ∃ z : Int, z = ((m + 1 : Nat) : Int) := ⟨_, rfl⟩
  rw [ho.d1, hH.sc, ← hz]
  have s1 := hH.put (d := d) (.int .i64 z) (by omega) (by omega) (by omega) (by omega)
  have v1 : (a.put (some d) (.int .i64 z)).eval (.tmp d) = .int .i64 z := put_same _ (by rw [hH.size]; omega)
  generalize a.put (some d) (.int .i64 z) = a1 at s1 v1
  obtain ⟨r, hp2⟩ := ho.p2
  have e0 : a1.eval (.const (.int .i64 1)) = .int .i64 1 := rfl
  have hwr : IntKind.i64.wrap (z - 1) = (m : Int) := by rw [IntWalk.i64_in _ (by omega)]; omega
  have hrun : (binOp .sub 3 (.int .i64 z) (.int .i64 1)).run Try.prog w = .ok (.int .i64 (m : Int)) w := by
    simp only [binOp, Op.intArith]
    simp [hwr]
  refine wpList_run ho.g2 (.int .i64 (m : Int)) (by unfold execOp; simp only [hp2, v1, e0]; simp [eqGuard, hrun]) ?_
  rw [ho.d2]
  have s2 := s1.put (d := d + 1) (.int .i64 (m : Int)) (by omega) (by omega) (by omega) (by omega)
  have v2 : (a1.put (some (d + 1)) (.int .i64 (m : Int))).eval (.tmp (d + 1)) = .int .i64 (m : Int) := put_same _ (by rw [s1.size]; omega)
  generalize a1.put (some (d + 1)) (.int .i64 (m : Int)) = a2 at s2 v2
  refine wpList_mv ho.g3 (.tmp (d + 1)) (.inr ho.p3) ?_
  rw [ho.d3, v2]
  refine wpList_nil (h _ ⟨(put_size _ _ _).trans s2.size, (put_defers _ _ _).trans s2.defers, (put_other _ (by omega)).trans s2.s2, (put_other _ (by omega)).trans s2.s4, (put_other _ (by omega)).trans s2.s5, put_same _ (by rw [s2.size]; omega)⟩)
section
variable {N c rk rb hb j k : Nat} {TH T : TypeId} {hcs zs : List Value} {ks : List K} {all : Rd × List (List Value)} {u : World}
theorem list_loop {b b1 hs : Nat} {headC body decr : Code} {Q : Exit → Act → World → Prop}
    (hhead : ∀ (a : Act) (w : World) (m : Nat) (st : Rd) (Q : Exit → Act → World → Prop), Hd N c rk rb hb m a → RW rb st w → m ≤ 100000000 → (∀ a', Hd N c rk rb hb m a' → a'.eval (.tmp hs) = .bool (decide (0 < m) && !st.bad) → Q .normal a' w) → headC.wp Try.prog Q a w)
    (hbody : ∀ (a : Act) (w : World) (m : Nat) (st : Rd) (rows : List (List Value)) (v : Value) (Q : Exit → Act → World → Prop), Hd N c rk rb hb (m + 1) a → RLp rb hb rk j TH T k hcs zs ks all (m + 1) st rows v u w → st.bad = false →
      (∀ a' w' st' rows' v', Hd N c rk rb hb (m + 1) a' → RLp rb hb rk j TH T k hcs zs ks all m st' rows' v' u w' → Q .normal a' w') → body.wp Try.prog Q a w)
    (hdecr : ∀ (a : Act) (w : World) (m : Nat) (Q : Exit → Act → World → Prop), m ≤ 100000000 → Hd N c rk rb hb (m + 1) a → (∀ a', Hd N c rk rb hb m a' → Q .normal a' w) → decr.wp Try.prog Q a w)
    {a : Act} {w : World} {n : Nat} {t : Rd} {v0 : Value} (hH : Hd N c rk rb hb n a) (hR : RLp rb hb rk j TH T k hcs zs ks all n t [] v0 u w)
    (h : ∀ a' w' m st rows v, Hd N c rk rb hb m a' → all = (st, rows) → RLp rb hb rk j TH T k hcs zs ks all m st rows v u w' → Q .normal a' w') :
    (Code.block b (Code.loop (Code.seq (Code.seq headC (Code.cond (.tmp hs) Code.skip (Code.exit b))) (Code.seq (Code.block b1 body) decr)))).wp Try.prog Q a w := by
  refine wp_block ?_
  refine wp_loop (fun a w => ∃ m st rows v, Hd N c rk rb hb m a ∧ RLp rb hb rk j TH T k hcs zs ks all m st rows v u w) (fun a _ => (intOf (a.eval (.tmp c))).toNat) ⟨n, t, [], v0, hH, hR⟩ ?_
  rintro a w ⟨m, st, rows, v, hH, hR⟩
  have hm : m ≤ 100000000 := by have := hR.few; omega
  refine wp_seq (wp_seq (hhead a w m st _ hH hR.rw_ hm fun a' hH' hv => ?_))
  show Code.wp _ (Code.cond _ _ _) _ a' w
  by_cases hgo : 0 < m ∧ st.bad = false
  · obtain ⟨m, rfl⟩ : ∃ q, m = q + 1 := ⟨m - 1, by omega⟩
    refine wp_cond_true (by rw [hv, hgo.2]; simp) (wp_skip ?_)
    show Code.wp _ (Code.seq _ _) _ a' w
    refine wp_seq (wp_block (hbody a' w m st rows v _ hH' hR hgo.2 fun a2 w2 st' rows' v' hH2 hR2 => ?_))
    show Code.wp _ decr _ a2 w2
    refine hdecr a2 w2 m _ (by omega) hH2 fun a3 hH3 => ?_
    refine ⟨⟨m, st', rows', v', hH3, hR2⟩, ?_⟩
    rw [hH3.sc, hH.sc]
    simp [intOf]
  · refine wp_cond_false ?_ (wp_exit ?_)
    · rw [hv]
      by_cases h0 : 0 < m
      · have : st.bad = true := by
          cases hb : st.bad with
          | true => rfl
          | false => exact absurd ⟨h0, hb⟩ hgo
        rw [this]; simp
      · simp [h0]
    · have hall := hR.done (by
        by_cases h0 : m = 0
        · exact .inl h0
        · refine .inr ?_
          cases hb : st.bad with
          | true => rfl
          | false => exact absurd ⟨by omega, hb⟩ hgo)
      show Exit.inBlock b Q (.exit b) a' w
      simp only [Exit.inBlock, if_true]
      exact h a' w m st rows v hH' hall hR
end
/-! ### A list whole -/
structure H0 (N rk rb hb : Nat) (a : Act) : Prop where
  size : a.tmps.size = N
  defers : a.defers = []
  s2 : a.eval (.tmp 2) = .pointer (some ⟨rk, 0, none⟩)
  s4 : a.eval (.tmp 4) = .pointer (some ⟨rb, 0, none⟩)
  s5 : a.eval (.tmp 5) = .pointer (some ⟨hb, 0, none⟩)
theorem H0.put {N rk rb hb d : Nat} {a : Act} (h : H0 N rk rb hb a) (v : Value) (h2 : d ≠ 2) (h4 : d ≠ 4) (h5 : d ≠ 5) : H0 N rk rb hb (a.put (some d) v) :=
  ⟨(put_size _ _ _).trans h.size, (put_defers _ _ _).trans h.defers, (put_other v h2.symm).trans h.s2, (put_other v h4.symm).trans h.s4, (put_other v h5.symm).trans h.s5⟩
theorem Hd.h0 {N c rk rb hb m : Nat} {a : Act} (h : Hd N c rk rb hb m a) : H0 N rk rb hb a := ⟨h.size, h.defers, h.s2, h.s4, h.s5⟩
structure CntOps (c d : Nat) (o1 o2 o3 : Oper) : Prop where
  g1 : o1.guard = none
  g2 : o2.guard = none
  g3 : o3.guard = none
  p1 : o1.op = .move (.tmp 4)
  p2 : ∃ tys, o2.op = .call { callee := .value (.func 23), args := #[.tmp d], argTypes := tys }
  p3 : o3.op = .assign (.tmp (d + 1))
  d1 : o1.dst = some d
  d2 : o2.dst = some (d + 1)
  d3 : o3.dst = some c
theorem cf_count (vals : Array Value) (w : World) : (callFunc 23 vals).run Try.prog w = .ok (.enter 23 vals) w := by
  simp [go_sem]
theorem count_step {c d : Nat} {o1 o2 o3 : Oper} {id N rk rb hb : Nat} {s : Rd} {a : Act} {w : World} {Q : Exit → Act → World → Prop} (ho : CntOps c d o1 o2 o3) (hd : 35 ≤ d) (hc : c < 35) (hc2 : 5 < c) (hN : d + 1 < N) (hH : H0 N rk rb hb a) (hr : RW rb s w) (hl : s.D.length ≤ 100000000)
    (h : ∀ a' w' n t, Hd N c rk rb hb n a' → n ≤ 100000000 → RW rb t w' → t.D.length ≤ 100000000 → Fr (fun i => i = rb) w w' → (∀ ks, (rdRows ks n t).2 = (rdList ks s).2 ∧ (rdRows ks n t).1.bad = (rdList ks s).1.bad ∧ ((rdList ks s).1.bad = false → (rdRows ks n t).1.D = (rdList ks s).1.D)) → Q .normal a' w') :
    (Code.region id #[o1, o2, o3] false).wp Try.prog Q a w := by
  refine wp_region_list ?_
  show wpList _ _ _ [o1, o2, o3] a w
  refine wpList_mv ho.g1 (.tmp 4) (.inl ho.p1) ?_
  rw [ho.d1, hH.s4]
  have s1 := hH.put (d := d) (.pointer (some ⟨rb, 0, none⟩)) (by omega) (by omega) (by omega)
  have v1 : (a.put (some d) (.pointer (some ⟨rb, 0, none⟩))).eval (.tmp d) = .pointer (some ⟨rb, 0, none⟩) := put_same _ (by rw [hH.size]; omega)
  generalize a.put (some d) (.pointer (some ⟨rb, 0, none⟩)) = a1 at s1 v1
  obtain ⟨tys, hp2⟩ := ho.p2
  refine wpList_callR ho.g2 _ #[.tmp d] tys hp2 #[.pointer (some ⟨rb, 0, none⟩)] (by simp only [List.map_toArray, List.map_cons, List.map_nil, v1]) (cf_count _ _) _ (count_1 hr hl) ?_
  rintro e' w1 ⟨n, t, rfl, hn, hrw, hsl, hfr, hall⟩
  refine ⟨.int .i64 (n : Int), rfl, ?_⟩
  rw [ho.d2]
  have s2 := s1.put (d := d + 1) (.int .i64 (n : Int)) (by omega) (by omega) (by omega)
  have v2 : (a1.put (some (d + 1)) (.int .i64 (n : Int))).eval (.tmp (d + 1)) = .int .i64 (n : Int) := put_same _ (by rw [s1.size]; omega)
  generalize a1.put (some (d + 1)) (.int .i64 (n : Int)) = a2 at s2 v2
  refine wpList_mv ho.g3 (.tmp (d + 1)) (.inr ho.p3) ?_
  rw [ho.d3, v2]
  exact wpList_nil (h _ w1 n t ⟨(put_size _ _ _).trans s2.size, (put_defers _ _ _).trans s2.defers, (put_other _ (by omega)).trans s2.s2, (put_other _ (by omega)).trans s2.s4, (put_other _ (by omega)).trans s2.s5, put_same _ (by rw [s2.size]; omega)⟩ hn hrw hsl hfr hall)
def TJ (j : Nat) : TypeId := ([73, 76, 78, 80, 84, 87, 92, 95, 97, 99, 101, 103, 105, 107] : List TypeId).getD j 0
theorem TJ_ne : ∀ q, q < 14 → TJ q ≠ 67 ∧ TJ q ≠ 37 := by decide
def hcsJ (i : Nat) (vals : Nat → Value) : List Value := (List.range 15).map fun q => if q < i then vals q else if q < 14 then .slice none 0 0 else .int .i64 0
theorem hcsJ_at (i : Nat) (vals : Nat → Value) (q : Nat) (hq : q < 15) : (hcsJ i vals)[q]? = some (if q < i then vals q else if q < 14 then .slice none 0 0 else .int .i64 0) := by
  unfold hcsJ
  rw [List.getElem?_map, List.getElem?_range hq]; rfl
theorem hcsJ_len (i : Nat) (vals : Nat → Value) : (hcsJ i vals).length = 15 := by simp [hcsJ]
theorem hcsJ_set (i : Nat) (hi : i < 14) (vals : Nat → Value) (v : Value) : (hcsJ i vals).set i v = hcsJ (i + 1) (fun q => if q = i then v else vals q) := by
  apply List.ext_getElem?
  intro q
  rw [List.getElem?_set]
  by_cases hq : q < 15
  · rw [hcsJ_at (i + 1) _ q hq, hcsJ_at i _ q hq, hcsJ_len]
    by_cases e : i = q
    · subst e
      simp only [if_true]
      rw [if_pos hq, if_pos (by omega)]
    · rw [if_neg e]
      by_cases h1 : q < i
      · rw [if_pos h1, if_pos (by omega), if_neg (fun h => e h.symm)]
      · rw [if_neg h1, if_neg (show ¬ q < i + 1 by omega)]
  · rw [if_neg (by omega), List.getElem?_eq_none (by rw [hcsJ_len]; omega), List.getElem?_eq_none (by rw [hcsJ_len]; omega)]
/-- Between the lists. -/
structure HS (N rk rb hb i : Nat) (s0 : Rd) (vals : Nat → Value) (w0 : World) (a : Act) (w : World) : Prop where
  h0 : H0 N rk rb hb a
  rw_ : RW rb (stH s0 i) w
  cs : Cs hb 37 (hcsJ i vals) w
  rk : Cs rk 37 (hcsJ 0 fun _ => .nilIface) w
  own : ∀ q, q < i → w.ownsRow w0.heap.size (TJ q) (szJ q) (vals q) (rdList (ksJ q) (stH s0 q)).2.length (rdList (ksJ q) (stH s0 q)).2.flatten
  fr : Fr (fun i => i = rb ∨ i = hb) w0 w
theorem list_all {i c d hs id b b1 N rk rb hb : Nat} {o1 o2 o3 : Oper} {headC body decr : Code} {s0 : Rd} {vals : Nat → Value} {w0 : World} {a : Act} {w : World} {Q : Exit → Act → World → Prop}
    (hi : i < 14) (hs0 : s0.D.length ≤ 100000000) (hne : hb ≠ rb) (hrkn : rk ≠ rb) (hkn : rk ≠ hb) (ho : CntOps c d o1 o2 o3) (hd : 35 ≤ d) (hc : c < 35) (hc2 : 5 < c) (hN : d + 1 < N)
    (hhead : ∀ (a : Act) (w : World) (m : Nat) (st : Rd) (Q : Exit → Act → World → Prop), Hd N c rk rb hb m a → RW rb st w → m ≤ 100000000 → (∀ a', Hd N c rk rb hb m a' → a'.eval (.tmp hs) = .bool (decide (0 < m) && !st.bad) → Q .normal a' w) → headC.wp Try.prog Q a w)
    (hbody : ∀ (hcs zs : List Value) (all : Rd × List (List Value)) (u : World) (a : Act) (w : World) (m : Nat) (st : Rd) (rows : List (List Value)) (v : Value) (Q : Exit → Act → World → Prop), i < hcs.length → Hd N c rk rb hb (m + 1) a → RLp rb hb rk i 37 (TJ i) (szJ i) hcs zs (ksJ i) all (m + 1) st rows v u w → st.bad = false →
      (∀ a' w' st' rows' v', Hd N c rk rb hb (m + 1) a' → RLp rb hb rk i 37 (TJ i) (szJ i) hcs zs (ksJ i) all m st' rows' v' u w' → Q .normal a' w') → body.wp Try.prog Q a w)
    (hdecr : ∀ (a : Act) (w : World) (m : Nat) (Q : Exit → Act → World → Prop), m ≤ 100000000 → Hd N c rk rb hb (m + 1) a → (∀ a', Hd N c rk rb hb m a' → Q .normal a' w) → decr.wp Try.prog Q a w)
    (hH : HS N rk rb hb i s0 vals w0 a w) (h : ∀ a' w' vals', HS N rk rb hb (i + 1) s0 vals' w0 a' w' → Q .normal a' w') :
    (Code.seq (Code.region id #[o1, o2, o3] false) (Code.block b (Code.loop (Code.seq (Code.seq headC (Code.cond (.tmp hs) Code.skip (Code.exit b))) (Code.seq (Code.block b1 body) decr))))).wp Try.prog Q a w := by
  refine wp_seq (count_step ho hd hc hc2 hN hH.h0 hH.rw_ (Nat.le_trans (stH_len _ _) hs0) fun a1 u n t hH1 hn hr hsl hf hall => ?_)
  show Code.wp _ (Code.block _ _) _ a1 u
  have hch : Cs hb 37 (hcsJ i vals) u := hf.blk hH.cs hne
  have hck := hf.blk hH.rk hrkn
  refine list_loop hhead (fun a w m st rows v Q => hbody (hcsJ i vals) _ _ u a w m st rows v Q (by rw [hcsJ_len]; omega)) hdecr hH1 (RLp.start hn hsl hr hch hck (by rw [hcsJ_at i vals i (by omega), if_neg (by omega), if_pos hi]) (Fr.refl _ u)) fun a2 w2 m st rows v hH2 hall2 hR2 => ?_
  refine h a2 w2 (fun q => if q = i then v else vals q) ⟨hH2.h0, ?_, ?_, hR2.rk, ?_, ?_⟩
  · refine hR2.rw_.eqv ⟨?_, fun hb => ?_⟩
    · show st.bad = (rdList (ksJ i) (stH s0 i)).1.bad
      rw [← (hall (ksJ i)).2.1, hall2]
    · show st.D = (rdList (ksJ i) (stH s0 i)).1.D
      rw [← (hall (ksJ i)).2.2 hb, hall2]
  · rw [← hcsJ_set i hi]; exact hR2.cs
  · intro q hq
    by_cases e : q = i
    · subst e
      simp only [if_true]
      have e2 : rows = (rdList (ksJ q) (stH s0 q)).2 := by rw [← (hall (ksJ q)).1, hall2]
      rw [← e2]
      exact own_mono hR2.own (Nat.le_trans hH.fr.size hf.size)
    · simp only [if_neg e]
      have hq' : q < i := by omega
      have hT := TJ_ne q (by omega)
      have h1 := hH.own q hq'
      have h2 : u.ownsRow w0.heap.size (TJ q) (szJ q) (vals q) _ _ := own_same h1 fun g hg => hf.block g (h1.lt g hg).2 (fun e => rw_ne h1 hH.rw_ hT.1 (by rw [hg, e]))
      exact own_same h2 fun g hg => hR2.fr.block g (h2.lt g hg).2 (by
        rintro (e | e)
        · exact rw_ne h2 hr hT.1 (by rw [hg, e])
        · exact own_ne h2 hch hT.2 (by rw [hg, e]))
  · exact (hH.fr.trans hf fun i hi => .inl (.inl hi)).trans hR2.fr fun i hi => .inl hi
end Go.Proofs.Ytgdoodeibcfcjaa.Wire
