/- The reference's House: an item's units. -/
import Derived.Test.YtgdoodeibcfcjaaCRHouseM
set_option linter.unusedVariables false
set_option linter.unusedSimpArgs false
namespace Go.Proofs.Ytgdoodeibcfcjaa.Wire
open Go.RowKit Go.Proofs.Ytgdoodeibcfcjaa.NumsPure Go.Proofs.Ytgdoodeibcfcjaa.CPure Go.Proofs.Ytgdoodeibcfcjaa.Own
theorem ufa1 (b : Nat) (w : World) : (Instr.fieldAt 73 (.pointer (some ⟨b, 0, none⟩)) 1).run Try.prog w = .ok (.pointer (some ⟨b, 1, none⟩)) w := by simp [go_sem]
theorem uix (b i : Nat) (hi : i < 4) (w : World) : (Instr.indexAt 71 (.pointer (some ⟨b, 1, none⟩)) (.int .i64 (i : Int))).run Try.prog w = .ok (.pointer (some ⟨b, 1 + i * 2, none⟩)) w := by
  have h0 : (0 : Int) ≤ (i : Int) := by omega
  have h1 : (i : Int) < 4 := by omega
  simp [go_sem, h0, h1]
theorem ufa2 (b o : Nat) (w : World) : (Instr.fieldAt 70 (.pointer (some ⟨b, o, none⟩)) 0).run Try.prog w = .ok (.pointer (some ⟨b, o + 0, none⟩)) w := by simp [go_sem]
theorem ufa3 (b o : Nat) (w : World) : (Instr.fieldAt 70 (.pointer (some ⟨b, o, none⟩)) 1).run Try.prog w = .ok (.pointer (some ⟨b, o + 1, none⟩)) w := by simp [go_sem]
structure UnitOps (fn e d uc : Nat) (vt : TypeId) (j : Nat) (o1 o2 o3 o4 o5 o6 o7 : Oper) : Prop where
  g1 : o1.guard = none
  g2 : o2.guard = none
  g3 : o3.guard = none
  g4 : o4.guard = none
  g5 : o5.guard = none
  g6 : o6.guard = none
  g7 : o7.guard = none
  p1 : o1.op = .move (.tmp uc)
  p2 : o2.op = .move (.tmp 4)
  p3 : ∃ tys, o3.op = .call { callee := .value (.func fn), args := #[.tmp (d + 1)], argTypes := tys }
  p4 : o4.op = .fieldAddr 73 (.tmp e) 1
  p5 : o5.op = .indexAddr 71 (.tmp (d + 3)) (.tmp d)
  p6 : o6.op = .fieldAddr 70 (.tmp (d + 4)) j
  p7 : o7.op = .store vt (.tmp (d + 5)) (.tmp (d + 2))
  d1 : o1.dst = some d
  d2 : o2.dst = some (d + 1)
  d3 : o3.dst = some (d + 2)
  d4 : o4.dst = some (d + 3)
  d5 : o5.dst = some (d + 4)
  d6 : o6.dst = some (d + 5)
  d7 : o7.dst = none
theorem unit_step {fn e d uc i : Nat} {vt : TypeId} {j : Nat} {o1 o2 o3 o4 o5 o6 o7 : Oper} {id N c rk rb hb xb m : Nat} {T : TypeId} {s0 : Rd} {kd k1 kr : List K} {w0 : World} {a : Act} {w : World} {Q : Exit → Act → World → Prop}
    (ho : UnitOps fn e d uc vt j o1 o2 o3 o4 o5 o6 o7) (hr : ReadsG fn k1) (hcf : ∀ vals w, (callFunc fn vals).run Try.prog w = .ok (.enter fn vals) w) (hfa : ∀ b o w, (Instr.fieldAt 70 (.pointer (some ⟨b, o, none⟩)) j).run Try.prog w = .ok (.pointer (some ⟨b, o + j, none⟩)) w)
    (hvt : (Try.prog.info? vt).map (·.size) = some k1.length) (hi : i < 4) (hkd : kd.length = 1 + i * 2 + j) (hd : 35 ≤ d) (he : e < 35) (hc : c < 35) (hu : uc < 35) (hN : d + 5 < N) (hne : xb ≠ rb)
    (hB : BS N e c rk rb hb xb m T s0 kd (k1 ++ kr) w0 a w) (huc : a.eval (.tmp uc) = .int .i64 (i : Int)) (h : ∀ a' w', BS N e c rk rb hb xb m T s0 (kd ++ k1) kr w0 a' w' → a'.eval (.tmp uc) = .int .i64 (i : Int) → Q .normal a' w') : (Code.region id #[o1, o2, o3, o4, o5, o6, o7] false).wp Try.prog Q a w := by
  refine wp_region_list ?_
  show wpList _ _ _ [o1, o2, o3, o4, o5, o6, o7] a w
  refine wpList_mv ho.g1 (.tmp uc) (.inl ho.p1) ?_
  rw [ho.d1, huc]
  have s0' := hB.sl.put (d := d) (.int .i64 (i : Int)) (by omega) (by omega) (by omega) (by omega) (by omega)
  have x0 : (a.put (some d) (.int .i64 (i : Int))).eval (.tmp d) = .int .i64 (i : Int) := put_same _ (by rw [hB.sl.size]; omega)
  have y0 : (a.put (some d) (.int .i64 (i : Int))).eval (.tmp uc) = .int .i64 (i : Int) := (put_other _ (by omega)).trans huc
  generalize a.put (some d) (.int .i64 (i : Int)) = a0 at s0' x0 y0
  refine wpList_mv ho.g2 (.tmp 4) (.inl ho.p2) ?_
  rw [ho.d2, s0'.s4]
  have s1 := s0'.put (d := d + 1) (.pointer (some ⟨rb, 0, none⟩)) (by omega) (by omega) (by omega) (by omega) (by omega)
  have v1 : (a0.put (some (d + 1)) (.pointer (some ⟨rb, 0, none⟩))).eval (.tmp (d + 1)) = .pointer (some ⟨rb, 0, none⟩) := put_same _ (by rw [s0'.size]; omega)
  have x1 : (a0.put (some (d + 1)) (.pointer (some ⟨rb, 0, none⟩))).eval (.tmp d) = .int .i64 (i : Int) := (put_other _ (by omega)).trans x0
  have y1 : (a0.put (some (d + 1)) (.pointer (some ⟨rb, 0, none⟩))).eval (.tmp uc) = .int .i64 (i : Int) := (put_other _ (by omega)).trans y0
  generalize a0.put (some (d + 1)) (.pointer (some ⟨rb, 0, none⟩)) = a1 at s1 v1 x1 y1
  obtain ⟨tys, hp3⟩ := ho.p3
  refine wpList_callR ho.g3 fn #[.tmp (d + 1)] tys hp3 #[.pointer (some ⟨rb, 0, none⟩)] (by simp only [List.map_toArray, List.map_cons, List.map_nil, v1]) (hcf _ _) _ (hr rb _ w hB.rw_) ?_
  rintro e' w1 ⟨v, rfl, hvc, hrw, hfr⟩
  refine ⟨v, rfl, ?_⟩
  rw [ho.d3]
  have s2 := s1.put (d := d + 2) v (by omega) (by omega) (by omega) (by omega) (by omega)
  have v2 : (a1.put (some (d + 2)) v).eval (.tmp (d + 2)) = v := put_same _ (by rw [s1.size]; omega)
  have x2 : (a1.put (some (d + 2)) v).eval (.tmp d) = .int .i64 (i : Int) := (put_other _ (by omega)).trans x1
  have y2 : (a1.put (some (d + 2)) v).eval (.tmp uc) = .int .i64 (i : Int) := (put_other _ (by omega)).trans y1
  generalize a1.put (some (d + 2)) v = a2 at s2 v2 x2 y2
  refine wpList_run ho.g4 (.pointer (some ⟨xb, 1, none⟩)) (by unfold execOp; simp only [ho.p4, s2.se, Sem.run_bind, ufa1 xb w1, Result.andThen_ok, Sem.run_pure]) ?_
  rw [ho.d4]
  have s3 := s2.put (d := d + 3) (.pointer (some ⟨xb, 1, none⟩)) (by omega) (by omega) (by omega) (by omega) (by omega)
  have z3 : (a2.put (some (d + 3)) (.pointer (some ⟨xb, 1, none⟩))).eval (.tmp (d + 3)) = .pointer (some ⟨xb, 1, none⟩) := put_same _ (by rw [s2.size]; omega)
  have v3 : (a2.put (some (d + 3)) (.pointer (some ⟨xb, 1, none⟩))).eval (.tmp (d + 2)) = v := (put_other _ (by omega)).trans v2
  have x3 : (a2.put (some (d + 3)) (.pointer (some ⟨xb, 1, none⟩))).eval (.tmp d) = .int .i64 (i : Int) := (put_other _ (by omega)).trans x2
  have y3 : (a2.put (some (d + 3)) (.pointer (some ⟨xb, 1, none⟩))).eval (.tmp uc) = .int .i64 (i : Int) := (put_other _ (by omega)).trans y2
  generalize a2.put (some (d + 3)) (.pointer (some ⟨xb, 1, none⟩)) = a3 at s3 z3 v3 x3 y3
  refine wpList_run ho.g5 (.pointer (some ⟨xb, 1 + i * 2, none⟩)) (by unfold execOp; simp only [ho.p5, z3, x3, Sem.run_bind, uix xb i hi w1, Result.andThen_ok, Sem.run_pure]) ?_
  rw [ho.d5]
  have s4 := s3.put (d := d + 4) (.pointer (some ⟨xb, 1 + i * 2, none⟩)) (by omega) (by omega) (by omega) (by omega) (by omega)
  have z4 : (a3.put (some (d + 4)) (.pointer (some ⟨xb, 1 + i * 2, none⟩))).eval (.tmp (d + 4)) = .pointer (some ⟨xb, 1 + i * 2, none⟩) := put_same _ (by rw [s3.size]; omega)
  have v4 : (a3.put (some (d + 4)) (.pointer (some ⟨xb, 1 + i * 2, none⟩))).eval (.tmp (d + 2)) = v := (put_other _ (by omega)).trans v3
  have y4 : (a3.put (some (d + 4)) (.pointer (some ⟨xb, 1 + i * 2, none⟩))).eval (.tmp uc) = .int .i64 (i : Int) := (put_other _ (by omega)).trans y3
  generalize a3.put (some (d + 4)) (.pointer (some ⟨xb, 1 + i * 2, none⟩)) = a4 at s4 z4 v4 y4
  obtain ⟨o, ho'⟩ : ∃ o, o = 1 + i * 2 + j := ⟨_, rfl⟩
  refine wpList_run ho.g6 (.pointer (some ⟨xb, o, none⟩)) (by unfold execOp; simp only [ho.p6, z4, Sem.run_bind, hfa xb (1 + i * 2) w1, Result.andThen_ok, Sem.run_pure, ho']) ?_
  rw [ho.d6]
  have s5 := s4.put (d := d + 5) (.pointer (some ⟨xb, o, none⟩)) (by omega) (by omega) (by omega) (by omega) (by omega)
  have z5 : (a4.put (some (d + 5)) (.pointer (some ⟨xb, o, none⟩))).eval (.tmp (d + 5)) = .pointer (some ⟨xb, o, none⟩) := put_same _ (by rw [s4.size]; omega)
  have v5 : (a4.put (some (d + 5)) (.pointer (some ⟨xb, o, none⟩))).eval (.tmp (d + 2)) = v := (put_other _ (by omega)).trans v4
  have y5 : (a4.put (some (d + 5)) (.pointer (some ⟨xb, o, none⟩))).eval (.tmp uc) = .int .i64 (i : Int) := (put_other _ (by omega)).trans y4
  generalize a4.put (some (d + 5)) (.pointer (some ⟨xb, o, none⟩)) = a5 at s5 z5 v5 y5
  rw [← ho'] at hkd
  have hl : (rds k1 (rds kd s0 (kd.map zeroV)).1 (k1.map zeroV)).2.length = k1.length := rds_len _ _
  have hcs : Cs xb T ((rds kd s0 (kd.map zeroV)).2 ++ k1.map zeroV ++ kr.map zeroV) w1 := by
    have := hfr.blk hB.cs hne
    rw [List.map_append, ← List.append_assoc] at this
    exact this
  have hdl : (rds kd s0 (kd.map zeroV)).2.length = o := (rds_len _ _).trans hkd
  refine wpList_storeV ho.g7 vt (.tmp (d + 5)) (.tmp (d + 2)) ho.p7 xb o v _ z5 v5 hvc ?_ (by rw [hl]; exact hvt) (fits_one (fits_rds k1 _ _ (fits_zero k1))) ?_
  · intro q hq
    rw [hl] at hq
    refine ⟨?_, hcs.frozen _⟩
    rw [hcs.cell, List.getElem?_eq_getElem (by simp only [List.length_append, List.length_map, hdl]; omega)]
    rfl
  · rw [ho.d7, put_none]
    refine wpList_nil (h a5 _ ⟨s5, ?_, ?_, ?_⟩ y5)
    · have e1 : (rds (kd ++ k1) s0 ((kd ++ k1).map zeroV)).1 = (rds k1 (rds kd s0 (kd.map zeroV)).1 (k1.map zeroV)).1 := by
        rw [List.map_append, rds_append _ _ _ _ _ (by simp)]
      rw [e1]
      exact hrw.other (heap_setCells xb _ o w1 rb (fun e => hne e.symm))
    · have e2 : (rds (kd ++ k1) s0 ((kd ++ k1).map zeroV)).2 = (rds kd s0 (kd.map zeroV)).2 ++ (rds k1 (rds kd s0 (kd.map zeroV)).1 (k1.map zeroV)).2 := by
        rw [List.map_append, rds_append _ _ _ _ _ (by simp)]
      rw [e2]
      have := Cs.setCells (rds k1 (rds kd s0 (kd.map zeroV)).1 (k1.map zeroV)).2 (rds kd s0 (kd.map zeroV)).2 (k1.map zeroV) (kr.map zeroV) w1 (by rw [hl]; simp) hcs
      rw [hdl] at this
      exact this
    · have f1 : Fr (fun i => i = rb ∨ i = xb) w0 w1 := hB.fr.trans hfr fun i hi => .inl (.inl hi)
      obtain ⟨q1, q2, q3, q4⟩ := same_setCells xb (rds k1 (rds kd s0 (kd.map zeroV)).1 (k1.map zeroV)).2 o w1
      exact ⟨q1.trans f1.os, q2.trans f1.tape, q3.trans f1.output, by rw [q4]; exact f1.size, fun i hi hn => (heap_setCells xb _ o w1 i (fun e => hn (.inr e))).trans (f1.block i hi hn)⟩
theorem cf_textU (vals : Array Value) (w : World) : (callFunc 24 vals).run Try.prog w = .ok (.enter 24 vals) w := by
  simp [go_sem]
theorem cf_numU (vals : Array Value) (w : World) : (callFunc 25 vals).run Try.prog w = .ok (.enter 25 vals) w := by
  simp [go_sem]
def unitsK (m : Nat) : List K := (List.replicate m [K.t, K.n]).flatten
theorem unitsK_succ (m : Nat) : unitsK (m + 1) = [.t] ++ ([.n] ++ unitsK m) := by simp [unitsK, List.replicate_succ]
structure ULoop (uc d1 d2 : Nat) (p0 q1 q2 r1 r2 r3 : Oper) : Prop where
  gp : p0.guard = none
  g1 : q1.guard = none
  g2 : q2.guard = none
  h1 : r1.guard = none
  h2 : r2.guard = none
  h3 : r3.guard = none
  pp : p0.op = .assign (.const (.int .i64 0))
  dp : p0.dst = some uc
  pq1 : q1.op = .move (.tmp uc)
  pq2 : ∃ r, q2.op = .binOp .lss 3 (.tmp d1) (.const (.int .i64 4)) r
  dq1 : q1.dst = some d1
  dq2 : q2.dst = some (d1 + 1)
  pr1 : r1.op = .move (.tmp uc)
  pr2 : ∃ r, r2.op = .binOp .add 3 (.tmp d2) (.const (.int .i64 1)) r
  pr3 : r3.op = .assign (.tmp (d2 + 1))
  dr1 : r1.dst = some d2
  dr2 : r2.dst = some (d2 + 1)
  dr3 : r3.dst = some uc
theorem BS.slp {N e c rk rb hb xb m d : Nat} {T : TypeId} {s0 : Rd} {kd kr : List K} {w0 w : World} {a : Act} (h : BS N e c rk rb hb xb m T s0 kd kr w0 a w) (v : Value) (h2 : d ≠ 2) (h4 : d ≠ 4) (h5 : d ≠ 5) (he : d ≠ e) (hc : d ≠ c) : BS N e c rk rb hb xb m T s0 kd kr w0 (a.put (some d) v) w :=
  ⟨h.sl.put v h2 h4 h5 he hc, h.rw_, h.cs, h.fr⟩
theorem units_all {e uc d1 d2 du1 du2 b b1 id0 id1 id2 id3 id4 : Nat} {p0 q1 q2 r1 r2 r3 o1 o2 o3 o4 o5 o6 o7 t1 t2 t3 t4 t5 t6 t7 : Oper} {N c rk rb hb xb m : Nat} {T : TypeId} {s0 : Rd} {kr : List K} {w0 : World} {a : Act} {w : World} {Q : Exit → Act → World → Prop}
    (hU : ULoop uc d1 d2 p0 q1 q2 r1 r2 r3) (ho : UnitOps 24 e du1 uc 9 0 o1 o2 o3 o4 o5 o6 o7) (ht : UnitOps 25 e du2 uc 3 1 t1 t2 t3 t4 t5 t6 t7)
    (hd1 : 35 ≤ d1) (hd2 : 35 ≤ d2) (hdu1 : 35 ≤ du1) (hdu2 : 35 ≤ du2) (he : e < 35) (hc : c < 35) (hu : uc < 35) (hu5 : 5 < uc) (hue : uc ≠ e) (huc : uc ≠ c) (hN1 : d1 + 1 < N) (hN2 : d2 + 1 < N) (hN3 : du1 + 5 < N) (hN4 : du2 + 5 < N) (hne : xb ≠ rb) (hbb : b1 ≠ b)
    (hB : BS N e c rk rb hb xb m T s0 [.t] (unitsK 4 ++ kr) w0 a w) (h : ∀ a' w', BS N e c rk rb hb xb m T s0 ([.t] ++ unitsK 4) kr w0 a' w' → Q .normal a' w') :
    (Code.seq (Code.region id0 #[p0] false) (Code.block b (Code.loop (Code.seq (Code.seq (Code.region id1 #[q1, q2] false) (Code.cond (.tmp (d1 + 1)) Code.skip (Code.exit b))) (Code.seq (Code.block b1 (Code.seq (Code.region id2 #[o1, o2, o3, o4, o5, o6, o7] false) (Code.region id3 #[t1, t2, t3, t4, t5, t6, t7] false))) (Code.region id4 #[r1, r2, r3] false)))))).wp Try.prog Q a w := by
  have hone_t : (Try.prog.info? 9).map (·.size) = some 1 := by kernel_rfl
  have hone_n : (Try.prog.info? 3).map (·.size) = some 1 := by kernel_rfl
  refine wp_seq (wp_region_list ?_)
  show wpList _ _ _ [p0] a w
  refine wpList_mv hU.gp (.const (.int .i64 0)) (.inr hU.pp) ?_
  rw [hU.dp]
  have b0 := hB.slp (d := uc) (a.eval (.const (.int .i64 0))) (by omega) (by omega) (by omega) hue huc
  have c0 : (a.put (some uc) (a.eval (.const (.int .i64 0)))).eval (.tmp uc) = .int .i64 ((0 : Nat) : Int) := (put_same _ (by rw [hB.sl.size]; omega)).trans rfl
  generalize a.put (some uc) (a.eval (.const (.int .i64 0))) = a0 at b0 c0
  refine wpList_nil ?_
  show Code.wp _ (Code.block _ _) _ a0 w
  refine wp_block ?_
  refine wp_loop (fun a w => ∃ i : Nat, i ≤ 4 ∧ a.eval (.tmp uc) = .int .i64 (i : Int) ∧ BS N e c rk rb hb xb m T s0 ([.t] ++ unitsK i) (unitsK (4 - i) ++ kr) w0 a w) (fun a _ => 4 - (intOf (a.eval (.tmp uc))).toNat) ⟨0, by omega, c0, b0⟩ ?_
  rintro a w ⟨i, hi, hv, hB⟩
  have hul : ∀ q, (unitsK q).length = q * 2 := fun q => by
    induction q with
    | zero => rfl
    | succ q ih => rw [unitsK_succ]; simp [ih]; omega
  refine wp_seq (wp_seq (wp_region_list ?_))
  show wpList _ _ _ [q1, q2] a w
  refine wpList_mv hU.g1 (.tmp uc) (.inl hU.pq1) ?_
  rw [hU.dq1, hv]
  have b1' := hB.slp (d := d1) (.int .i64 (i : Int)) (by omega) (by omega) (by omega) (by omega) (by omega)
  have v1 : (a.put (some d1) (.int .i64 (i : Int))).eval (.tmp d1) = .int .i64 (i : Int) := put_same _ (by rw [hB.sl.size]; omega)
  have y1 : (a.put (some d1) (.int .i64 (i : Int))).eval (.tmp uc) = .int .i64 (i : Int) := (put_other _ (by omega)).trans hv
  generalize a.put (some d1) (.int .i64 (i : Int)) = a1 at b1' v1 y1
  obtain ⟨rr, hq2⟩ := hU.pq2
  have e4 : a1.eval (.const (.int .i64 4)) = .int .i64 4 := rfl
  refine wpList_run hU.g2 (.bool (decide (i < 4))) ?_ ?_
  · unfold execOp
    have hdd : decide ((i : Int) < 4) = decide (i < 4) := by
      rw [decide_eq_decide]; omega
    simp only [hq2, v1, e4]
    simp [go_sem, hdd]
  rw [hU.dq2]
  have b2 := b1'.slp (d := d1 + 1) (.bool (decide (i < 4))) (by omega) (by omega) (by omega) (by omega) (by omega)
  have v2 : (a1.put (some (d1 + 1)) (.bool (decide (i < 4)))).eval (.tmp (d1 + 1)) = .bool (decide (i < 4)) := put_same _ (by rw [b1'.sl.size]; omega)
  have y2 : (a1.put (some (d1 + 1)) (.bool (decide (i < 4)))).eval (.tmp uc) = .int .i64 (i : Int) := (put_other _ (by omega)).trans y1
  generalize a1.put (some (d1 + 1)) (.bool (decide (i < 4))) = a2 at b2 v2 y2
  refine wpList_nil ?_
  show Code.wp _ (Code.cond _ _ _) _ a2 w
  by_cases hlt : i < 4
  · refine wp_cond_true (by rw [v2]; simp [hlt]) (wp_skip ?_)
    show Code.wp _ (Code.seq _ _) _ a2 w
    have hk : unitsK (4 - i) ++ kr = [K.t] ++ ([K.n] ++ (unitsK (4 - (i + 1)) ++ kr)) := by rw [show 4 - i = (4 - (i + 1)) + 1 from by omega, unitsK_succ]; simp
    rw [hk] at b2
    refine wp_seq (wp_block (wp_seq (unit_step ho (ReadsG.of1 text_1) cf_textU ufa2 hone_t hlt (by simp [hul]; omega) hdu1 he hc hu hN3 hne b2 y2 fun a3 w3 b3 y3 => ?_)))
    show Code.wp _ (Code.region _ _ _) _ a3 w3
    refine unit_step ht (ReadsG.of1 num_1) cf_numU ufa3 hone_n hlt (by simp [hul]; omega) hdu2 he hc hu hN4 hne b3 y3 fun a4 w4 b4 y4 => ?_
    show Code.wp _ (Code.region _ _ _) _ a4 w4
    refine wp_region_list ?_
    show wpList _ _ _ [r1, r2, r3] a4 w4
    refine wpList_mv hU.h1 (.tmp uc) (.inl hU.pr1) ?_
    rw [hU.dr1, y4]
    have b5 := b4.slp (d := d2) (.int .i64 (i : Int)) (by omega) (by omega) (by omega) (by omega) (by omega)
    have v5 : (a4.put (some d2) (.int .i64 (i : Int))).eval (.tmp d2) = .int .i64 (i : Int) := put_same _ (by rw [b4.sl.size]; omega)
    generalize a4.put (some d2) (.int .i64 (i : Int)) = a5 at b5 v5
    obtain ⟨r', hr2⟩ := hU.pr2
    have e1 : a5.eval (.const (.int .i64 1)) = .int .i64 1 := rfl
    have hwr : IntKind.i64.wrap ((i : Int) + 1) = ((i + 1 : Nat) : Int) := by rw [IntWalk.i64_in _ (by omega)]; omega
    have hrun : (binOp .add 3 (.int .i64 (i : Int)) (.int .i64 1)).run Try.prog w4 = .ok (.int .i64 ((i + 1 : Nat) : Int)) w4 := by
      simp only [binOp, Op.intArith]
      simp [hwr]
    refine wpList_run hU.h2 (.int .i64 ((i + 1 : Nat) : Int)) (by unfold execOp; simp only [hr2, v5, e1]; generalize ((i + 1 : Nat) : Int) = z at hrun; simp [eqGuard, hrun]) ?_
    rw [hU.dr2]
    have b6 := b5.slp (d := d2 + 1) (.int .i64 ((i + 1 : Nat) : Int)) (by omega) (by omega) (by omega) (by omega) (by omega)
    have v6 : (a5.put (some (d2 + 1)) (.int .i64 ((i + 1 : Nat) : Int))).eval (.tmp (d2 + 1)) = .int .i64 ((i + 1 : Nat) : Int) := put_same _ (by rw [b5.sl.size]; omega)
    generalize a5.put (some (d2 + 1)) (.int .i64 ((i + 1 : Nat) : Int)) = a6 at b6 v6
    refine wpList_mv hU.h3 (.tmp (d2 + 1)) (.inr hU.pr3) ?_
    rw [hU.dr3, v6]
    have b7 := b6.slp (d := uc) (.int .i64 ((i + 1 : Nat) : Int)) (by omega) (by omega) (by omega) hue huc
    have v7 : (a6.put (some uc) (.int .i64 ((i + 1 : Nat) : Int))).eval (.tmp uc) = .int .i64 ((i + 1 : Nat) : Int) := put_same _ (by rw [b6.sl.size]; omega)
    generalize a6.put (some uc) (.int .i64 ((i + 1 : Nat) : Int)) = a7 at b7 v7
    refine wpList_nil ⟨⟨i + 1, by omega, v7, ?_⟩, ?_⟩
    · have hk2 : ([K.t] ++ unitsK i ++ [K.t]) ++ [K.n] = [K.t] ++ unitsK (i + 1) := by
        have : unitsK (i + 1) = unitsK i ++ [K.t, K.n] := by simp [unitsK, List.replicate_succ']
        rw [this]; simp
      rw [hk2] at b7
      exact b7
    · rw [v7]; simp [intOf]; omega
  · obtain rfl : i = 4 := by omega
    refine wp_cond_false (by rw [v2]; simp) (wp_exit ?_)
    show Exit.inBlock b Q (.exit b) a2 w
    simp only [Exit.inBlock, if_true]
    exact h a2 w b2
end Go.Proofs.Ytgdoodeibcfcjaa.Wire
