/- The reference's House: what its loops have in common, over a frame of which some slots alone are told. -/
import Derived.Test.YtgdoodeibcfcjaaCRLoop
import Derived.Test.YtgdoodeibcfcjaaCRLib
set_option linter.unusedVariables false
set_option linter.unusedSimpArgs false
namespace Go.Proofs.Ytgdoodeibcfcjaa.Wire
open Go.RowKit Go.Proofs.Ytgdoodeibcfcjaa.NumsPure Go.Proofs.Ytgdoodeibcfcjaa.CPure Go.Proofs.Ytgdoodeibcfcjaa.Own
section
variable {P : Program}
theorem run_storeV (w : World) (b o : Nat) (ty : TypeId) (v : Value) (cs : List Value) (hv : v.cells.toList = cs) (ht : w.there b o cs.length) (hi : (P.info? ty).map (·.size) = some cs.length) (h1 : ∀ u ∈ cs, u.oneCell' = true) :
    (storeVar ty ⟨b, o, none⟩ v).run P w = .ok () (w.setCells b o cs) := by
  have := run_storeCells_cells (P := P) b o cs 0 w (fun j hj => by simpa using (ht j (by simpa using hj)).1) (fun j hj => by simpa using (ht j (by simpa using hj)).2) h1
  cases hq : P.info? ty with
  | none => simp [hq] at hi
  | some i =>
    have hs : i.size = cs.length := by simp [hq] at hi; omega
    have hvs : v.cells.size = i.size := by rw [hs, ← hv]; simp
    simp only [Nat.add_zero] at this
    simp [storeVar, sizeOf, typeInfo, hq, hvs, hv, this]
theorem wpList_storeV {ops : Array Oper} {rest : List Oper} {op : Oper} {a : Act} {w : World} {Q : Exit → Act → World → Prop} (hgd : op.guard = none) (ty : TypeId) (x y : Operand) (ho : op.op = .store ty x y)
    (b o : Nat) (v : Value) (cs : List Value) (hx : a.eval x = .pointer (some ⟨b, o, none⟩)) (hy : a.eval y = v) (hv : v.cells.toList = cs) (ht : w.there b o cs.length) (hi : (P.info? ty).map (·.size) = some cs.length) (h1 : ∀ u ∈ cs, u.oneCell' = true)
    (h : wpList P ops Q rest (a.put op.dst undef) (w.setCells b o cs)) : wpList P ops Q (op :: rest) a w :=
  wpList_plain hgd fun _ hK => by
    unfold Oper.wp execOp
    simp only [ho, hx, hy, Instr.storeAt, Instr.sureAddr, Sem.run_bind, Sem.run_pure, Result.andThen_ok, run_storeV w b o ty v cs hv ht hi h1]
    exact hK _ _ h
end
/-- A part of a block is overwritten. -/
theorem Cs.setCells {b : Nat} {T : TypeId} : ∀ (cs acc old post : List Value) (w : World), old.length = cs.length → Cs b T (acc ++ old ++ post) w → Cs b T (acc ++ cs ++ post) (w.setCells b acc.length cs)
  | [], acc, old, post, w, hl, h => by
    rw [List.length_eq_zero_iff.1 hl] at h
    exact h
  | c :: cs, acc, [], post, w, hl, h => by simp at hl
  | c :: cs, acc, o :: old, post, w, hl, h => by
    have h1 := h.set acc.length c
    have e : ((acc ++ o :: old) ++ post).set acc.length c = ((acc ++ [c]) ++ old) ++ post := by
      rw [List.append_assoc, List.set_append_right _ _ (Nat.le_refl _), Nat.sub_self]; simp
    rw [e] at h1
    have h2 := Cs.setCells cs (acc ++ [c]) old post _ (by simpa using hl) h1
    have e2 : (acc ++ [c]) ++ cs ++ post = acc ++ c :: cs ++ post := by simp
    rw [e2, List.length_append] at h2
    exact h2
/-- A reading function: what it answers is of these kinds' cells. -/
def ReadsG (fn : Nat) (ks : List K) : Prop := ∀ (rb : Nat) (s : Rd) (w : World), RW rb s w → Calls Try.prog fn #[.pointer (some ⟨rb, 0, none⟩)] w fun e w' => ∃ v : Value, e = .returned v ∧ v.cells.toList = (rds ks s (ks.map zeroV)).2 ∧ RW rb (rds ks s (ks.map zeroV)).1 w' ∧ Fr (fun i => i = rb) w w'
theorem ReadsG.of1 {fn : Nat} {k : K} (h : Reads1 fn k) : ReadsG fn [k] := fun rb s w hr => (h rb s w hr).mono fun e w' ⟨h1, h2, h3⟩ => by
  refine ⟨_, h1, ?_, h2, h3⟩
  have : IsK k (rd1 k s (zeroV k)).2 := isK_rd1 k s _ (by cases k <;> exact ⟨_, rfl⟩)
  show (rd1 k s (zeroV k)).2.cells.toList = [(rd1 k s (zeroV k)).2]
  cases k <;> (obtain ⟨z, hz⟩ := this; rw [hz]; rfl)
theorem ReadsG.ofM {fn : Nat} {ks : List K} (h : ReadsM fn ks) : ReadsG fn ks := fun rb s w hr => (h rb s w hr).mono fun e w' ⟨h1, h2, h3⟩ => ⟨_, h1, by simp [Value.cells], h2, h3⟩
/-- The slots that a round looks at: the result's cell, the reader, the house, the thing, the count. -/
structure Sl (N e c rk rb hb xb m : Nat) (a : Act) : Prop where
  size : a.tmps.size = N
  defers : a.defers = []
  s2 : a.eval (.tmp 2) = .pointer (some ⟨rk, 0, none⟩)
  s4 : a.eval (.tmp 4) = .pointer (some ⟨rb, 0, none⟩)
  s5 : a.eval (.tmp 5) = .pointer (some ⟨hb, 0, none⟩)
  se : a.eval (.tmp e) = .pointer (some ⟨xb, 0, none⟩)
  sc : a.eval (.tmp c) = .int .i64 (m : Int)
theorem Sl.put {N e c rk rb hb xb m d : Nat} {a : Act} (h : Sl N e c rk rb hb xb m a) (v : Value) (h2 : d ≠ 2) (h4 : d ≠ 4) (h5 : d ≠ 5) (he : d ≠ e) (hc : d ≠ c) : Sl N e c rk rb hb xb m (a.put (some d) v) :=
  ⟨(put_size _ _ _).trans h.size, (put_defers _ _ _).trans h.defers, (put_other v h2.symm).trans h.s2, (put_other v h4.symm).trans h.s4, (put_other v h5.symm).trans h.s5, (put_other v he.symm).trans h.se, (put_other v hc.symm).trans h.sc⟩
/-- Amid a thing's reading: the kinds that have been read, and those that are to come. -/
structure BS (N e c rk rb hb xb m : Nat) (T : TypeId) (s0 : Rd) (kd kr : List K) (w0 : World) (a : Act) (w : World) : Prop where
  sl : Sl N e c rk rb hb xb m a
  rw_ : RW rb (rds kd s0 (kd.map zeroV)).1 w
  cs : Cs xb T ((rds kd s0 (kd.map zeroV)).2 ++ kr.map zeroV) w
  fr : Fr (fun i => i = rb ∨ i = xb) w0 w
/-- A region that reads a field: the pointer, the call, the field's address, the store. -/
structure FieldOps (fn e d : Nat) (TX vt : TypeId) (j : Nat) (o1 o2 o3 o4 : Oper) : Prop where
  g1 : o1.guard = none
  g2 : o2.guard = none
  g3 : o3.guard = none
  g4 : o4.guard = none
  p1 : o1.op = .move (.tmp 4)
  p2 : ∃ tys, o2.op = .call { callee := .value (.func fn), args := #[.tmp d], argTypes := tys }
  p3 : o3.op = .fieldAddr TX (.tmp e) j
  p4 : o4.op = .store vt (.tmp (d + 2)) (.tmp (d + 1))
  d1 : o1.dst = some d
  d2 : o2.dst = some (d + 1)
  d3 : o3.dst = some (d + 2)
  d4 : o4.dst = none
theorem rds_len (ks : List K) (s : Rd) : (rds ks s (ks.map zeroV)).2.length = ks.length := fits_len (fits_rds ks s _ (fits_zero ks))
theorem field_step {fn e d : Nat} {TX vt : TypeId} {j o : Nat} {o1 o2 o3 o4 : Oper} {id N c rk rb hb xb m : Nat} {T : TypeId} {s0 : Rd} {kd k1 kr : List K} {w0 : World} {a : Act} {w : World} {Q : Exit → Act → World → Prop}
    (ho : FieldOps fn e d TX vt j o1 o2 o3 o4) (hr : ReadsG fn k1) (hcf : ∀ vals w, (callFunc fn vals).run Try.prog w = .ok (.enter fn vals) w) (hfa : ∀ b w, (Instr.fieldAt TX (.pointer (some ⟨b, 0, none⟩)) j).run Try.prog w = .ok (.pointer (some ⟨b, o, none⟩)) w)
    (hvt : (Try.prog.info? vt).map (·.size) = some k1.length) (hkd : kd.length = o) (hd : 35 ≤ d) (he : e < 35) (hc : c < 35) (hN : d + 2 < N) (hne : xb ≠ rb)
    (hB : BS N e c rk rb hb xb m T s0 kd (k1 ++ kr) w0 a w) (h : ∀ a' w', BS N e c rk rb hb xb m T s0 (kd ++ k1) kr w0 a' w' → Q .normal a' w') : (Code.region id #[o1, o2, o3, o4] false).wp Try.prog Q a w := by
  refine wp_region_list ?_
  show wpList _ _ _ [o1, o2, o3, o4] a w
  refine wpList_mv ho.g1 (.tmp 4) (.inl ho.p1) ?_
  rw [ho.d1, hB.sl.s4]
  have s1 := hB.sl.put (d := d) (.pointer (some ⟨rb, 0, none⟩)) (by omega) (by omega) (by omega) (by omega) (by omega)
  have v1 : (a.put (some d) (.pointer (some ⟨rb, 0, none⟩))).eval (.tmp d) = .pointer (some ⟨rb, 0, none⟩) := put_same _ (by rw [hB.sl.size]; omega)
  generalize a.put (some d) (.pointer (some ⟨rb, 0, none⟩)) = a1 at s1 v1
  obtain ⟨tys, hp2⟩ := ho.p2
  refine wpList_callR ho.g2 fn #[.tmp d] tys hp2 #[.pointer (some ⟨rb, 0, none⟩)] (by simp only [List.map_toArray, List.map_cons, List.map_nil, v1]) (hcf _ _) _ (hr rb _ w hB.rw_) ?_
  rintro e' w1 ⟨v, rfl, hvc, hrw, hfr⟩
  refine ⟨v, rfl, ?_⟩
  rw [ho.d2]
  have s2 := s1.put (d := d + 1) v (by omega) (by omega) (by omega) (by omega) (by omega)
  have v2 : (a1.put (some (d + 1)) v).eval (.tmp (d + 1)) = v := put_same _ (by rw [s1.size]; omega)
  generalize a1.put (some (d + 1)) v = a2 at s2 v2
  refine wpList_run ho.g3 (.pointer (some ⟨xb, o, none⟩)) ?_ ?_
  · unfold execOp
    simp only [ho.p3, s2.se, Sem.run_bind, hfa xb w1, Result.andThen_ok, Sem.run_pure]
  rw [ho.d3]
  have s3 := s2.put (d := d + 2) (.pointer (some ⟨xb, o, none⟩)) (by omega) (by omega) (by omega) (by omega) (by omega)
  have v3 : (a2.put (some (d + 2)) (.pointer (some ⟨xb, o, none⟩))).eval (.tmp (d + 2)) = .pointer (some ⟨xb, o, none⟩) := put_same _ (by rw [s2.size]; omega)
  have v3' : (a2.put (some (d + 2)) (.pointer (some ⟨xb, o, none⟩))).eval (.tmp (d + 1)) = v := (put_other _ (by omega)).trans v2
  generalize a2.put (some (d + 2)) (.pointer (some ⟨xb, o, none⟩)) = a3 at s3 v3 v3'
  have hl : (rds k1 (rds kd s0 (kd.map zeroV)).1 (k1.map zeroV)).2.length = k1.length := rds_len _ _
  have hcs : Cs xb T ((rds kd s0 (kd.map zeroV)).2 ++ k1.map zeroV ++ kr.map zeroV) w1 := by
    have := hfr.blk hB.cs hne
    rw [List.map_append, ← List.append_assoc] at this
    exact this
  have hdl : (rds kd s0 (kd.map zeroV)).2.length = o := (rds_len _ _).trans hkd
  refine wpList_storeV ho.g4 vt (.tmp (d + 2)) (.tmp (d + 1)) ho.p4 xb o v _ v3 v3' hvc ?_ (by rw [hl]; exact hvt) (fits_one (fits_rds k1 _ _ (fits_zero k1))) ?_
  · intro q hq
    rw [hl] at hq
    refine ⟨?_, hcs.frozen _⟩
    rw [hcs.cell, List.getElem?_eq_getElem (by simp only [List.length_append, List.length_map, hdl]; omega)]
    rfl
  · rw [ho.d4, put_none]
    refine wpList_nil (h a3 _ ⟨s3, ?_, ?_, ?_⟩)
    · have e1 : (rds (kd ++ k1) s0 ((kd ++ k1).map zeroV)).1 = (rds k1 (rds kd s0 (kd.map zeroV)).1 (k1.map zeroV)).1 := by
        rw [List.map_append, rds_append _ _ _ _ _ (by simp)]
      rw [e1]
      exact hrw.other (heap_setCells xb _ o w1 rb (fun e => hne e.symm))
    · have e2 : (rds (kd ++ k1) s0 ((kd ++ k1).map zeroV)).2 = (rds kd s0 (kd.map zeroV)).2 ++ (rds k1 (rds kd s0 (kd.map zeroV)).1 (k1.map zeroV)).2 := by
        rw [List.map_append, rds_append _ _ _ _ _ (by simp)]
      rw [e2]
      have := Cs.setCells (rds k1 (rds kd s0 (kd.map zeroV)).1 (k1.map zeroV)).2 (rds kd s0 (kd.map zeroV)).2 (k1.map zeroV) (kr.map zeroV) w1 (by rw [hl]; simp) hcs
      rw [hdl] at this
      exact this
    · have f1 : Fr (fun i => i = rb ∨ i = xb) w0 w1 := hB.fr.trans hfr fun i hi => .inl (.inl hi)
      obtain ⟨q1, q2, q3, q4⟩ := same_setCells xb (rds k1 (rds kd s0 (kd.map zeroV)).1 (k1.map zeroV)).2 o w1
      exact ⟨q1.trans f1.os, q2.trans f1.tape, q3.trans f1.output, by rw [q4]; exact f1.size, fun i hi hn => (heap_setCells xb _ o w1 i (fun e => hn (.inr e))).trans (f1.block i hi hn)⟩
end Go.Proofs.Ytgdoodeibcfcjaa.Wire
