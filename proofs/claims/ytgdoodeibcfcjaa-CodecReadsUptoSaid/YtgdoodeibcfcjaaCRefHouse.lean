/- The reference's House, walked whole. -/
import Derived.Test.YtgdoodeibcfcjaaCRefH
import Derived.Test.YtgdoodeibcfcjaaCAwake
set_option linter.unusedVariables false
set_option linter.unusedSimpArgs false
namespace Go.Proofs.Ytgdoodeibcfcjaa.Wire
open Go.RowKit Go.Proofs.Ytgdoodeibcfcjaa.NumsPure Go.Proofs.Ytgdoodeibcfcjaa.CPure Go.Proofs.Ytgdoodeibcfcjaa.Own
def zsH : List Value := [.slice none 0 0, .slice none 0 0, .slice none 0 0, .slice none 0 0, .slice none 0 0, .slice none 0 0, .slice none 0 0, .slice none 0 0, .slice none 0 0, .slice none 0 0, .slice none 0 0, .slice none 0 0, .slice none 0 0, .slice none 0 0, .int .i64 0]
theorem zsH_eq (vals : Nat → Value) : hcsJ 0 vals = zsH := rfl
theorem zeroH (w : World) : (zeroValue 37).run Try.prog w = .ok (.agg zsH.toArray) w := by
  have h : (Try.prog.info? 37).map (·.zero) = some (some (.agg zsH.toArray)) := by kernel_rfl
  cases hq : Try.prog.info? 37 with
  | none => simp [hq] at h
  | some i => simp [hq] at h; simp [zeroValue, typeInfo, hq, h]
theorem zeroRd (w : World) : (zeroValue 67).run Try.prog w = .ok (.agg #[.string ⟨#[]⟩, .bool false]) w := by
  have h : (Try.prog.info? 67).map (·.zero) = some (some (.agg #[.string ⟨#[]⟩, .bool false])) := by kernel_rfl
  cases hq : Try.prog.info? 67 with
  | none => simp [hq] at h
  | some i => simp [hq] at h; simp [zeroValue, typeInfo, hq, h]
theorem sizeH : (Try.prog.info? 37).map (·.size) = some 15 := by kernel_rfl
theorem run_allocT {o : Oper} {T : TypeId} {cs : List Value} {ρ : Operand → Value} (p : o.op = .alloc T) (hz : ∀ w, (zeroValue T).run Try.prog w = .ok (.agg cs.toArray) w) (w : World) : (execOp ρ o).run Try.prog w = .ok (.value (.pointer (some ⟨w.heap.size, 0, none⟩))) (w.alloc (.cells cs.toArray T)) := by
  unfold execOp
  simp [p, Instr.alloc, Sem.run_bind, hz w, newVar, newRow, Value.cells, go_sem]
theorem run_boxT {o : Oper} {T : TypeId} {cs : Array Value} {ρ : Operand → Value} {x : Operand} (p : o.op = .box T x) (hx : ρ x = .agg cs) (w : World) : (execOp ρ o).run Try.prog w = .ok (.value (.pointer (some ⟨w.heap.size, 0, none⟩))) (w.alloc (.cells cs T)) := by
  unfold execOp
  simp [p, hx, Instr.box, Sem.run_bind, newVar, newRow, Value.cells, go_sem]
/-- The first region: the result's cell. -/
theorem r0_step {o1 o2 : Oper} {id : Nat} {S : ByteArray} {a : Act} {w : World} {Q : Exit → Act → World → Prop} (g1 : o1.guard = none) (g2 : o2.guard = none) (p1 : o1.op = .alloc 37) (p2 : o2.op = .assign (.const (.int .i64 0))) (d1 : o1.dst = some 2) (d2 : o2.dst = some 3)
    (z : a.tmps.size = 515) (zd : a.defers = []) (z0 : a.eval (.tmp 0) = .string S)
    (h : ∀ a', a'.tmps.size = 515 → a'.defers = [] → a'.eval (.tmp 0) = .string S → a'.eval (.tmp 2) = .pointer (some ⟨w.heap.size, 0, none⟩) → Q .normal a' (w.alloc (.cells zsH.toArray 37))) : (Code.region id #[o1, o2] false).wp Try.prog Q a w := by
  refine wp_region_list ?_
  show wpList _ _ _ [o1, o2] a w
  refine Great.wpList_allocTo g1 (some 2) d1 _ _ (run_allocT p1 zeroH w) ?_
  refine wpList_mv g2 (.const (.int .i64 0)) (.inr p2) ?_
  rw [d2]
  refine wpList_nil (h _ ?_ ?_ ?_ ?_)
  · exact (put_size _ _ _).trans ((put_size _ _ _).trans z)
  · exact (put_defers _ _ _).trans ((put_defers _ _ _).trans zd)
  · exact (put_other _ (by omega)).trans ((put_other _ (by omega)).trans z0)
  · exact (put_other _ (by omega)).trans (put_same _ (by rw [z]; omega))
/-- The second: the reader. -/
theorem r1_step {o1 o2 o3 o4 : Oper} {id rk : Nat} {S : ByteArray} {a : Act} {w : World} {Q : Exit → Act → World → Prop} (g1 : o1.guard = none) (g2 : o2.guard = none) (g3 : o3.guard = none) (g4 : o4.guard = none) (p1 : o1.op = .move (.tmp 0)) (p2 : o2.op = .build 67 #[(0, .tmp 35)]) (p3 : o3.op = .box 67 (.tmp 36)) (p4 : o4.op = .assign (.tmp 37))
    (d1 : o1.dst = some 35) (d2 : o2.dst = some 36) (d3 : o3.dst = some 37) (d4 : o4.dst = some 4) (z : a.tmps.size = 515) (zd : a.defers = []) (z0 : a.eval (.tmp 0) = .string S) (z2 : a.eval (.tmp 2) = .pointer (some ⟨rk, 0, none⟩))
    (h : ∀ a', a'.tmps.size = 515 → a'.defers = [] → a'.eval (.tmp 2) = .pointer (some ⟨rk, 0, none⟩) → a'.eval (.tmp 4) = .pointer (some ⟨w.heap.size, 0, none⟩) → Q .normal a' (w.alloc (.cells #[.string S, .bool false] 67))) : (Code.region id #[o1, o2, o3, o4] false).wp Try.prog Q a w := by
  refine wp_region_list ?_
  show wpList _ _ _ [o1, o2, o3, o4] a w
  refine wpList_mv g1 (.tmp 0) (.inl p1) ?_
  rw [d1, z0]
  have v1 : (a.put (some 35) (.string S)).eval (.tmp 35) = .string S := put_same _ (by rw [z]; omega)
  have y1 : (a.put (some 35) (.string S)).eval (.tmp 2) = .pointer (some ⟨rk, 0, none⟩) := (put_other _ (by omega)).trans z2
  have x1 := (put_size a (some 35) (.string S)).trans z
  have q1 := (put_defers a (some 35) (.string S)).trans zd
  generalize a.put (some 35) (.string S) = a1 at v1 y1 x1 q1
  refine wpList_run g2 (.agg #[.string S, .bool false]) ?_ ?_
  · unfold execOp
    simp only [p2, List.map_toArray, List.map_cons, List.map_nil, v1]
    simp [Instr.build, Sem.run_bind, zeroRd w, Value.cells, go_sem, Instr.fill]
  rw [d2]
  have v2 : (a1.put (some 36) (.agg #[.string S, .bool false])).eval (.tmp 36) = .agg #[.string S, .bool false] := put_same _ (by rw [x1]; omega)
  have y2 : (a1.put (some 36) (.agg #[.string S, .bool false])).eval (.tmp 2) = .pointer (some ⟨rk, 0, none⟩) := (put_other _ (by omega)).trans y1
  have x2 := (put_size a1 (some 36) (.agg #[.string S, .bool false])).trans x1
  have q2 := (put_defers a1 (some 36) (.agg #[.string S, .bool false])).trans q1
  generalize a1.put (some 36) (.agg #[.string S, .bool false]) = a2 at v2 y2 x2 q2
  refine Great.wpList_allocTo g3 (some 37) d3 _ _ (run_boxT p3 v2 w) ?_
  have v3 : (a2.put (some 37) (.pointer (some ⟨w.heap.size, 0, none⟩))).eval (.tmp 37) = .pointer (some ⟨w.heap.size, 0, none⟩) := put_same _ (by rw [x2]; omega)
  have y3 : (a2.put (some 37) (.pointer (some ⟨w.heap.size, 0, none⟩))).eval (.tmp 2) = .pointer (some ⟨rk, 0, none⟩) := (put_other _ (by omega)).trans y2
  have x3 := (put_size a2 (some 37) (.pointer (some ⟨w.heap.size, 0, none⟩))).trans x2
  have q3 := (put_defers a2 (some 37) (.pointer (some ⟨w.heap.size, 0, none⟩))).trans q2
  generalize a2.put (some 37) (.pointer (some ⟨w.heap.size, 0, none⟩)) = a3 at v3 y3 x3 q3
  refine wpList_mv g4 (.tmp 37) (.inr p4) ?_
  rw [d4, v3]
  exact wpList_nil (h _ ((put_size _ _ _).trans x3) ((put_defers _ _ _).trans q3) ((put_other _ (by omega)).trans y3) (put_same _ (by rw [x3]; omega)))
/-- The third: the house. -/
theorem r2_step {o1 : Oper} {id rk rb : Nat} {a : Act} {w : World} {Q : Exit → Act → World → Prop} (g1 : o1.guard = none) (p1 : o1.op = .alloc 37) (d1 : o1.dst = some 5) (z : a.tmps.size = 515) (zd : a.defers = []) (z2 : a.eval (.tmp 2) = .pointer (some ⟨rk, 0, none⟩)) (z4 : a.eval (.tmp 4) = .pointer (some ⟨rb, 0, none⟩))
    (h : ∀ a', H0 515 rk rb w.heap.size a' → Q .normal a' (w.alloc (.cells zsH.toArray 37))) : (Code.region id #[o1] false).wp Try.prog Q a w := by
  refine wp_region_list ?_
  show wpList _ _ _ [o1] a w
  refine Great.wpList_allocTo g1 (some 5) d1 _ _ (run_allocT p1 zeroH w) ?_
  exact wpList_nil (h _ ⟨(put_size _ _ _).trans z, (put_defers _ _ _).trans zd, (put_other _ (by omega)).trans z2, (put_other _ (by omega)).trans z4, put_same _ (by rw [z]; omega)⟩)
/-! ### The last number -/
def lastH (vals : Nat → Value) (x : Int) : List Value := (hcsJ 14 vals).set 14 (.int .i64 x)
theorem lastH_len (vals : Nat → Value) (x : Int) : (lastH vals x).length = 15 := by simp [lastH, hcsJ_len]
theorem lastH_row (vals : Nat → Value) (x : Int) (q : Nat) (hq : q < 14) : (lastH vals x)[q]? = some (vals q) := by
  unfold lastH
  rw [List.getElem?_set_ne (by omega), hcsJ_at 14 vals q (by omega), if_pos hq]
theorem lastH_num (vals : Nat → Value) (x : Int) : (lastH vals x)[14]? = some (.int .i64 x) := by
  unfold lastH
  rw [List.getElem?_set_self (by rw [hcsJ_len]; omega)]
structure HT (N rk rb hb : Nat) (t : Rd) (rows : Nat → List (List Value)) (vals : Nat → Value) (w0 : World) (a : Act) (w : World) : Prop where
  h0 : H0 N rk rb hb a
  rw_ : RW rb (takeN t).2 w
  cs : Cs hb 37 (lastH vals (unfoldN (takeN t).1)) w
  rk : Cs rk 37 zsH w
  own : ∀ q, q < 14 → w.ownsRow w0.heap.size (TJ q) (szJ q) (vals q) (rows q).length (rows q).flatten
  fr : Fr (fun i => i = rb ∨ i = hb) w0 w
theorem last_step {d : Nat} {o1 o2 o3 o4 : Oper} {id N rk rb hb : Nat} {t : Rd} {rows : Nat → List (List Value)} {vals : Nat → Value} {w0 : World} {a : Act} {w : World} {Q : Exit → Act → World → Prop} (ho : FieldOps 25 5 d 37 3 14 o1 o2 o3 o4) (hd : 35 ≤ d) (hN : d + 2 < N) (hne : hb ≠ rb) (hrkn : rk ≠ rb) (hkh : rk ≠ hb)
    (hH : H0 N rk rb hb a) (hrw0 : RW rb t w) (hcs0 : Cs hb 37 (hcsJ 14 vals) w) (hck0 : Cs rk 37 zsH w)
    (hown : ∀ q, q < 14 → w.ownsRow w0.heap.size (TJ q) (szJ q) (vals q) (rows q).length (rows q).flatten) (hfr0 : Fr (fun i => i = rb ∨ i = hb) w0 w) (h : ∀ a' w', HT N rk rb hb t rows vals w0 a' w' → Q .normal a' w') : (Code.region id #[o1, o2, o3, o4] false).wp Try.prog Q a w := by
  refine wp_region_list ?_
  show wpList _ _ _ [o1, o2, o3, o4] a w
  refine wpList_mv ho.g1 (.tmp 4) (.inl ho.p1) ?_
  rw [ho.d1, hH.s4]
  have s1 := hH.put (d := d) (.pointer (some ⟨rb, 0, none⟩)) (by omega) (by omega) (by omega)
  have v1 : (a.put (some d) (.pointer (some ⟨rb, 0, none⟩))).eval (.tmp d) = .pointer (some ⟨rb, 0, none⟩) := put_same _ (by rw [hH.size]; omega)
  generalize a.put (some d) (.pointer (some ⟨rb, 0, none⟩)) = a1 at s1 v1
  obtain ⟨tys, hp2⟩ := ho.p2
  refine wpList_callR ho.g2 _ #[.tmp d] tys hp2 #[.pointer (some ⟨rb, 0, none⟩)] (by simp only [List.map_toArray, List.map_cons, List.map_nil, v1]) (cf_numU _ _) _ (num_1 rb _ w hrw0) ?_
  rintro e' w1 ⟨rfl, hrw, hfr⟩
  refine ⟨_, rfl, ?_⟩
  have hv : (rd1 .n t (zeroV .n)).2 = .int .i64 (unfoldN (takeN t).1) := rfl
  have hrw' : RW rb (takeN t).2 w1 := hrw
  rw [ho.d2, hv]
  clear hv hrw
  obtain ⟨x, hx⟩ : ∃ x, x = unfoldN (takeN t).1 := ⟨_, rfl⟩
  rw [← hx]
  have s2 := s1.put (d := d + 1) (.int .i64 x) (by omega) (by omega) (by omega)
  have v2 : (a1.put (some (d + 1)) (.int .i64 x)).eval (.tmp (d + 1)) = .int .i64 x := put_same _ (by rw [s1.size]; omega)
  generalize a1.put (some (d + 1)) (.int .i64 x) = a2 at s2 v2
  have hfa : (Instr.fieldAt 37 (.pointer (some ⟨hb, 0, none⟩)) 14).run Try.prog w1 = .ok (.pointer (some ⟨hb, 14, none⟩)) w1 := by simp [go_sem]
  refine wpList_run ho.g3 (.pointer (some ⟨hb, 14, none⟩)) (by unfold execOp; simp only [ho.p3, s2.s5, Sem.run_bind, hfa, Result.andThen_ok, Sem.run_pure]) ?_
  rw [ho.d3]
  have s3 := s2.put (d := d + 2) (.pointer (some ⟨hb, 14, none⟩)) (by omega) (by omega) (by omega)
  have v3 : (a2.put (some (d + 2)) (.pointer (some ⟨hb, 14, none⟩))).eval (.tmp (d + 2)) = .pointer (some ⟨hb, 14, none⟩) := put_same _ (by rw [s2.size]; omega)
  have v3' : (a2.put (some (d + 2)) (.pointer (some ⟨hb, 14, none⟩))).eval (.tmp (d + 1)) = .int .i64 x := (put_other _ (by omega)).trans v2
  generalize a2.put (some (d + 2)) (.pointer (some ⟨hb, 14, none⟩)) = a3 at s3 v3 v3'
  have hcs : Cs hb 37 (hcsJ 14 vals) w1 := hfr.blk hcs0 hne
  have hck : Cs rk 37 zsH w1 := hfr.blk hck0 hrkn
  refine wpList_storeV ho.g4 3 (.tmp (d + 2)) (.tmp (d + 1)) ho.p4 hb 14 (.int .i64 x) [.int .i64 x] v3 v3' rfl ?_ vt_n (by intro q hq; rw [List.mem_singleton.1 hq]; rfl) ?_
  · intro q hq
    obtain rfl : q = 0 := by simpa using hq
    refine ⟨?_, hcs.frozen _⟩
    rw [Nat.add_zero, hcs.cell, hcsJ_at 14 vals 14 (by omega)]; rfl
  · rw [ho.d4, put_none]
    obtain ⟨q1, q2, q3, q4⟩ := same_setCells hb [.int .i64 x] 14 w1
    have hoth : ∀ i, i ≠ hb → (w1.setCells hb 14 [.int .i64 x]).heap[i]? = w1.heap[i]? := fun i hi => heap_setCells hb [.int .i64 x] 14 w1 i hi
    refine wpList_nil (h a3 _ ⟨s3, hrw'.other (hoth rb (fun e => hne e.symm)), ?_, Cs.keep hck (hoth rk hkh), fun q hq => ?_, ?_⟩)
    · rw [← hx]; exact hcs.set 14 (.int .i64 x)
    · have h1 := hown q hq
      have h2 := own_same h1 fun g hg => hfr.block g (h1.lt g hg).2 (fun e => rw_ne h1 hrw0 (TJ_ne q hq).1 (by rw [hg, e]))
      exact own_same h2 fun g hg => hoth g (fun e => own_ne h2 hcs (TJ_ne q hq).2 (by rw [hg, e]))
    · have f1 : Fr (fun i => i = rb ∨ i = hb) w0 w1 := hfr0.trans hfr fun i hi => .inl (.inl hi)
      exact ⟨q1.trans f1.os, q2.trans f1.tape, q3.trans f1.output, by rw [q4]; exact f1.size, fun i hi hn => (hoth i (fun e => hn (.inr e))).trans (f1.block i hi hn)⟩
/-! ### The end -/
structure PeekOps (d j : Nat) (ty : TypeId) (o1 o2 o3 o4 : Oper) : Prop where
  g1 : o1.guard = none
  g2 : o2.guard = none
  g3 : o3.guard = none
  g4 : o4.guard = none
  p1 : o1.op = .move (.tmp 4)
  p2 : o2.op = .nilCheck (.tmp d)
  p3 : o3.op = .fieldAddr 67 (.tmp (d + 1)) j
  p4 : o4.op = .load ty (.tmp (d + 2))
  d1 : o1.dst = some d
  d2 : o2.dst = some (d + 1)
  d3 : o3.dst = some (d + 2)
  d4 : o4.dst = some (d + 3)
theorem peek_list {d j : Nat} {ty : TypeId} {o1 o2 o3 o4 : Oper} {ops : Array Oper} {rest : List Oper} {N rk rb hb : Nat} {v : Value} {a : Act} {w : World} {Q : Exit → Act → World → Prop} (ho : PeekOps d j ty o1 o2 o3 o4) (hd : 35 ≤ d) (hN : d + 3 < N) (hH : H0 N rk rb hb a)
    (hfa : (Instr.fieldAt 67 (.pointer (some ⟨rb, 0, none⟩)) j).run Try.prog w = .ok (.pointer (some ⟨rb, j, none⟩)) w) (hagg : (isAgg ty).run Try.prog w = .ok false w) (hc : w.cell? ⟨rb, j, none⟩ = some v)
    (h : ∀ a', H0 N rk rb hb a' → a'.eval (.tmp (d + 3)) = v → wpList Try.prog ops Q rest a' w) : wpList Try.prog ops Q (o1 :: o2 :: o3 :: o4 :: rest) a w := by
  refine wpList_mv ho.g1 (.tmp 4) (.inl ho.p1) ?_
  rw [ho.d1, hH.s4]
  have s1 := hH.put (d := d) (.pointer (some ⟨rb, 0, none⟩)) (by omega) (by omega) (by omega)
  have v1 : (a.put (some d) (.pointer (some ⟨rb, 0, none⟩))).eval (.tmp d) = .pointer (some ⟨rb, 0, none⟩) := put_same _ (by rw [hH.size]; omega)
  generalize a.put (some d) (.pointer (some ⟨rb, 0, none⟩)) = a1 at s1 v1
  refine wpList_run ho.g2 (.pointer (some ⟨rb, 0, none⟩)) (by unfold execOp; simp only [ho.p2, v1, Sem.run_pure]) ?_
  rw [ho.d2]
  have s2 := s1.put (d := d + 1) (.pointer (some ⟨rb, 0, none⟩)) (by omega) (by omega) (by omega)
  have v2 : (a1.put (some (d + 1)) (.pointer (some ⟨rb, 0, none⟩))).eval (.tmp (d + 1)) = .pointer (some ⟨rb, 0, none⟩) := put_same _ (by rw [s1.size]; omega)
  generalize a1.put (some (d + 1)) (.pointer (some ⟨rb, 0, none⟩)) = a2 at s2 v2
  refine wpList_run ho.g3 (.pointer (some ⟨rb, j, none⟩)) (by unfold execOp; simp only [ho.p3, v2, Sem.run_bind, hfa, Result.andThen_ok, Sem.run_pure]) ?_
  rw [ho.d3]
  have s3 := s2.put (d := d + 2) (.pointer (some ⟨rb, j, none⟩)) (by omega) (by omega) (by omega)
  have v3 : (a2.put (some (d + 2)) (.pointer (some ⟨rb, j, none⟩))).eval (.tmp (d + 2)) = .pointer (some ⟨rb, j, none⟩) := put_same _ (by rw [s2.size]; omega)
  generalize a2.put (some (d + 2)) (.pointer (some ⟨rb, j, none⟩)) = a3 at s3 v3
  refine wpList_run ho.g4 v (by unfold execOp; simp only [ho.p4, v3]; simp [Instr.loadAt, Instr.sureAddr, loadVar, Sem.run_bind, hagg, run_load, hc]) ?_
  rw [ho.d4]
  exact h _ (s3.put (d := d + 3) v (by omega) (by omega) (by omega)) (put_same _ (by rw [s3.size]; omega))
theorem build_H (ρ : Operand → Value) {o : Oper} (p : o.op = .build 37 #[]) (w : World) : (execOp ρ o).run Try.prog w = .ok (.value (.agg zsH.toArray)) w := by
  unfold execOp
  simp [p, Instr.build, Sem.run_bind, zeroH w, Value.cells, go_sem, Instr.fill]
theorem zsH_one : ∀ u ∈ zsH, u.oneCell' = true := by decide
theorem fail_end {d : Nat} {k : Int} {o1 o2 o3 : Oper} {id N rk rb hb : Nat} {a : Act} {w : World} {Q : Exit → Act → World → Prop} (g1 : o1.guard = none) (g2 : o2.guard = none) (g3 : o3.guard = none) (p1 : o1.op = .build 37 #[]) (p2 : o2.op = .store 37 (.tmp 2) (.tmp d)) (p3 : o3.op = .assign (.const (.int .i64 k))) (d1 : o1.dst = some d) (d2 : o2.dst = none) (d3 : o3.dst = some 3)
    (hd : 35 ≤ d) (hN : d < N) (hH : H0 N rk rb hb a) (hk : Cs rk 37 zsH w) (h : ∀ a', a'.defers = [] → a'.eval (.tmp 2) = .pointer (some ⟨rk, 0, none⟩) → a'.eval (.tmp 3) = .int .i64 k → Q .ret a' (w.setCells rk 0 zsH)) : (Code.seq (Code.region id #[o1, o2, o3] false) Code.ret).wp Try.prog Q a w := by
  refine wp_seq (wp_region_list ?_)
  show wpList _ _ _ [o1, o2, o3] a w
  refine wpList_run g1 (.agg zsH.toArray) (build_H _ p1 w) ?_
  rw [d1]
  have s1 := hH.put (d := d) (.agg zsH.toArray) (by omega) (by omega) (by omega)
  have v1 : (a.put (some d) (.agg zsH.toArray)).eval (.tmp d) = .agg zsH.toArray := put_same _ (by rw [hH.size]; omega)
  generalize a.put (some d) (.agg zsH.toArray) = a1 at s1 v1
  refine wpList_storeV g2 37 (.tmp 2) (.tmp d) p2 rk 0 (.agg zsH.toArray) zsH s1.s2 v1 rfl ?_ sizeH zsH_one ?_
  · intro q hq
    refine ⟨?_, hk.frozen _⟩
    rw [hk.cell, Nat.zero_add, List.getElem?_eq_getElem hq]; rfl
  · rw [d2, put_none]
    refine wpList_mv g3 (.const (.int .i64 k)) (.inr p3) ?_
    rw [d3]
    refine wpList_nil ?_
    show Code.wp _ Code.ret _ _ _
    exact wp_ret (h _ ((put_defers _ _ _).trans s1.defers) ((put_other _ (by omega)).trans s1.s2) ((put_same _ (by rw [s1.size]; omega)).trans rfl))
theorem good_end {d : Nat} {o1 o2 o3 : Oper} {id N rk rb hb : Nat} {cs : List Value} {a : Act} {w : World} {Q : Exit → Act → World → Prop} (g1 : o1.guard = none) (g2 : o2.guard = none) (g3 : o3.guard = none) (p1 : o1.op = .load 37 (.tmp 5)) (p2 : o2.op = .store 37 (.tmp 2) (.tmp d)) (p3 : o3.op = .assign (.const (.int .i64 0))) (d1 : o1.dst = some d) (d2 : o2.dst = none) (d3 : o3.dst = some 3)
    (hd : 35 ≤ d) (hN : d < N) (hH : H0 N rk rb hb a) (hk : Cs rk 37 zsH w) (hh : Cs hb 37 cs w) (hl : cs.length = 15) (h1 : ∀ u ∈ cs, u.oneCell' = true) (h : ∀ a', a'.defers = [] → a'.eval (.tmp 2) = .pointer (some ⟨rk, 0, none⟩) → a'.eval (.tmp 3) = .int .i64 0 → Q .ret a' (w.setCells rk 0 cs)) : (Code.seq (Code.region id #[o1, o2, o3] false) Code.ret).wp Try.prog Q a w := by
  refine wp_seq (wp_region_list ?_)
  show wpList _ _ _ [o1, o2, o3] a w
  refine wpList_load_at g1 37 (.tmp 5) p1 ⟨hb, 0, none⟩ hH.s5 cs _ (fun q v hv => ?_) Try.underlying37 rfl (by rw [sizeH, hl]) ?_
  · have ea : (⟨hb, 0, none⟩ : Addr).add q = ⟨hb, q, none⟩ := by unfold Addr.add; split <;> simp_all
    rw [ea, hh.cell]; exact hv
  rw [d1]
  have s1 := hH.put (d := d) (.agg cs.toArray) (by omega) (by omega) (by omega)
  have v1 : (a.put (some d) (.agg cs.toArray)).eval (.tmp d) = .agg cs.toArray := put_same _ (by rw [hH.size]; omega)
  generalize a.put (some d) (.agg cs.toArray) = a1 at s1 v1
  refine wpList_storeV g2 37 (.tmp 2) (.tmp d) p2 rk 0 (.agg cs.toArray) cs s1.s2 v1 rfl ?_ (by rw [sizeH, hl]) h1 ?_
  · intro q hq
    refine ⟨?_, hk.frozen _⟩
    rw [hk.cell, Nat.zero_add, List.getElem?_eq_getElem (show q < zsH.length by rw [hl] at hq; exact hq)]; rfl
  · rw [d2, put_none]
    refine wpList_mv g3 (.const (.int .i64 0)) (.inr p3) ?_
    rw [d3]
    refine wpList_nil ?_
    show Code.wp _ Code.ret _ _ _
    exact wp_ret (h _ ((put_defers _ _ _).trans s1.defers) ((put_other _ (by omega)).trans s1.s2) ((put_same _ (by rw [s1.size]; omega)).trans rfl))
theorem res_H {rk : Nat} {cs : List Value} {k : Int} {a : Act} {w : World} (h2 : a.eval (.tmp 2) = .pointer (some ⟨rk, 0, none⟩)) (h3 : a.eval (.tmp 3) = .int .i64 k) (hk : Cs rk 37 cs w) (hl : cs.length = 15) : (results Try.f8 a.tmps).run Try.prog w = .ok (.tuple #[.agg cs.toArray, .int .i64 k]) w := by
  have e2 : a.tmps.getD 2 undef = .pointer (some ⟨rk, 0, none⟩) := h2
  have e3 : a.tmps.getD 3 undef = .int .i64 k := h3
  have hv : (loadVar 37 ⟨rk, 0, none⟩).run Try.prog w = .ok (.agg cs.toArray) w := run_loadVar_at w ⟨rk, 0, none⟩ 37 cs _ (fun q v hv => by
    have ea : (⟨rk, 0, none⟩ : Addr).add q = ⟨rk, q, none⟩ := by unfold Addr.add; split <;> simp_all
    rw [ea, hk.cell]; exact hv) Try.underlying37 rfl (by rw [sizeH, hl])
  have er : Try.f8.results = #[.cell 2 37, .tmp 3] := rfl
  unfold results
  rw [er]
  have e2' : a.tmps[2]?.getD undef = .pointer (some ⟨rk, 0, none⟩) := by simpa using e2
  have e3' : a.tmps[3]?.getD undef = .int .i64 k := by simpa using e3
  simp [Sem.run_bind, e2', e3', asAddr, hv]
theorem set_all {b : Nat} {T : TypeId} {cs old : List Value} {w : World} (h : Cs b T old w) (hl : old.length = cs.length) : Cs b T cs (w.setCells b 0 cs) := by
  have := Cs.setCells cs [] old [] w hl (by simpa using h)
  simpa using this
theorem part_0 : dropC 0 bodyH = .seq (seqL (dropC 0 bodyH)) (dropC 1 bodyH) := rfl
theorem part_1 : dropC 1 bodyH = .seq (seqL (dropC 1 bodyH)) (dropC 2 bodyH) := rfl
theorem part_2 : dropC 2 bodyH = .seq (seqL (dropC 2 bodyH)) (dropC 3 bodyH) := rfl
theorem part_3 : dropC 3 bodyH = .seq (seqL (dropC 3 bodyH)) (dropC 4 bodyH) := rfl
theorem part_4 : dropC 4 bodyH = .seq (seqL (dropC 4 bodyH)) (dropC 5 bodyH) := rfl
theorem part_5 : dropC 5 bodyH = .seq (seqL (dropC 5 bodyH)) (dropC 6 bodyH) := rfl
theorem part_6 : dropC 6 bodyH = .seq (seqL (dropC 6 bodyH)) (dropC 7 bodyH) := rfl
theorem part_7 : dropC 7 bodyH = .seq (seqL (dropC 7 bodyH)) (dropC 8 bodyH) := rfl
theorem part_8 : dropC 8 bodyH = .seq (seqL (dropC 8 bodyH)) (dropC 9 bodyH) := rfl
theorem part_9 : dropC 9 bodyH = .seq (seqL (dropC 9 bodyH)) (dropC 10 bodyH) := rfl
theorem part_10 : dropC 10 bodyH = .seq (seqL (dropC 10 bodyH)) (dropC 11 bodyH) := rfl
theorem part_11 : dropC 11 bodyH = .seq (seqL (dropC 11 bodyH)) (dropC 12 bodyH) := rfl
theorem part_12 : dropC 12 bodyH = .seq (seqL (dropC 12 bodyH)) (dropC 13 bodyH) := rfl
theorem part_13 : dropC 13 bodyH = .seq (seqL (dropC 13 bodyH)) (dropC 14 bodyH) := rfl
theorem part_14 : dropC 14 bodyH = .seq (seqL (dropC 14 bodyH)) (dropC 15 bodyH) := rfl
theorem part_15 : dropC 15 bodyH = .seq (seqL (dropC 15 bodyH)) (dropC 16 bodyH) := rfl
theorem part_16 : dropC 16 bodyH = .seq (seqL (dropC 16 bodyH)) (dropC 17 bodyH) := rfl
theorem part_17 : dropC 17 bodyH = .seq (seqL (dropC 17 bodyH)) (dropC 18 bodyH) := rfl
theorem part_18 : dropC 18 bodyH = .seq (seqL (dropC 18 bodyH)) (dropC 19 bodyH) := rfl
theorem part_19 : dropC 19 bodyH = .seq (seqL (dropC 19 bodyH)) (dropC 20 bodyH) := rfl
theorem one_rows {w : World} {B k : Nat} {T : TypeId} {v : Value} {rows : List (List Value)} (h : w.ownsRow B T k v rows.length rows.flatten) : v.oneCell' = true := by
  obtain ⟨A, c, rfl⟩ := own_shape h
  rfl
theorem lastH_one {vals : Nat → Value} {x : Int} (h : ∀ q, q < 14 → (vals q).oneCell' = true) : ∀ u ∈ lastH vals x, u.oneCell' = true := by
  intro u hu
  obtain ⟨q, hq, rfl⟩ := List.getElem_of_mem hu
  have hq' : q < 15 := by rw [lastH_len] at hq; exact hq
  by_cases e : q = 14
  · subst e
    have := lastH_num vals x
    rw [List.getElem?_eq_getElem hq] at this
    rw [Option.some.inj this]; rfl
  · have := lastH_row vals x q (by omega)
    rw [List.getElem?_eq_getElem hq] at this
    rw [Option.some.inj this]
    exact h q (by omega)
theorem hR_bad {D : List UInt8} (h : endN (hS D) ≠ 0) : hR D = (fun _ => []) ∧ hZ D = 0 := by
  refine ⟨funext fun j => ?_, ?_⟩
  · unfold hR; rw [if_neg h]
  · unfold hZ; rw [if_neg h]
set_option maxHeartbeats 4000000 in
set_option maxRecDepth 100000 in
theorem rhouse_any (D : List UInt8) (S : ByteArray) (hS_ : S = ⟨D.toArray⟩) (hl : D.length ≤ 100000000) (w : World) : Calls Try.prog 8 #[.string S] w (HouseV (endN (hS D)) (hR D) (hZ D) w) := by
  refine calls_of_wp (c := dropC 0 bodyH) Try.func8 rfl ?_
  obtain ⟨a, ha⟩ : ∃ a : Act, a = { tmps := #[.string S] ++ Array.replicate (Try.f8.ntmps - (#[Value.string S] : Array Value).size) undef, defers := [] } := ⟨_, rfl⟩
  rw [← ha]
  have z1 : a.tmps.size = 515 := by rw [ha]; simp [Try.ntmps8]
  have z2 : a.defers = [] := by rw [ha]
  have z3 : a.eval (.tmp 0) = .string S := by rw [ha]; simp [Act.eval]
  clear ha
  rw [part_0]
  refine wp_seq (r0_step rfl rfl rfl rfl rfl rfl z1 z2 z3 fun a z1 z2 z3 z4 => ?_)
  show Code.wp _ (dropC 1 bodyH) _ a _
  rw [part_1]
  refine wp_seq (r1_step rfl rfl rfl rfl rfl rfl rfl rfl rfl rfl rfl rfl z1 z2 z3 z4 fun a z1 z2 z3 z4 => ?_)
  show Code.wp _ (dropC 2 bodyH) _ a _
  rw [part_2]
  obtain ⟨rk, hrk⟩ : ∃ rk, rk = w.heap.size := ⟨_, rfl⟩
  have hb1 : (w.alloc (.cells zsH.toArray 37)).heap.size = rk + 1 := by simp [hrk]
  have hb2 : ((w.alloc (.cells zsH.toArray 37)).alloc (.cells #[.string S, .bool false] 67)).heap.size = rk + 2 := by simp [hrk]
  have c0 := cs_alloc w zsH.toArray 37 zsH rfl
  have c1 := cs_alloc (w.alloc (.cells zsH.toArray 37)) #[.string S, .bool false] 67 [.string S, .bool false] rfl
  have c2 := cs_alloc ((w.alloc (.cells zsH.toArray 37)).alloc (.cells #[.string S, .bool false] 67)) zsH.toArray 37 zsH rfl
  have k1 := (alloc_below (w.alloc (.cells zsH.toArray 37)) (.cells #[.string S, .bool false] 67))
  have k2 := (alloc_below ((w.alloc (.cells zsH.toArray 37)).alloc (.cells #[.string S, .bool false] 67)) (.cells zsH.toArray 37))
  have hB : Below w.heap.size w (((w.alloc (.cells zsH.toArray 37)).alloc (.cells #[.string S, .bool false] 67)).alloc (.cells zsH.toArray 37)) := (((Below.refl _ w).alloc (Nat.le_refl _) _).alloc (by simp) _).alloc (by simp; omega) _
  rw [← hrk] at c0 z3
  rw [hb1] at c1 z4 k1
  rw [hb2] at c2 k2
  refine wp_seq (r2_step rfl rfl rfl z1 z2 z3 z4 fun a z5 => ?_)
  show Code.wp _ (dropC 3 bodyH) _ a _
  rw [hb2] at z5
  have c0' := Cs.keep (Cs.keep c0 (k1.block rk (by omega))) (k2.block rk (by omega))
  have c1' := Cs.keep c1 (k2.block (rk + 1) (by omega))
  obtain ⟨W, hW⟩ : ∃ W, W = ((w.alloc (.cells zsH.toArray 37)).alloc (.cells #[.string S, .bool false] 67)).alloc (.cells zsH.toArray 37) := ⟨_, rfl⟩
  rw [← hW] at c0' c1' c2 hB ⊢
  clear hW c0 c1 k1 k2 z1 z2 z3 z4 hb1 hb2
  obtain ⟨rb, hrb⟩ : ∃ rb, rb = rk + 1 := ⟨_, rfl⟩
  obtain ⟨hb, hhb⟩ : ∃ hb, hb = rk + 2 := ⟨_, rfl⟩
  rw [← hrb] at c1' z5
  rw [← hhb] at c2 z5
  have n1 : hb ≠ rb := by omega
  have n2 : rk ≠ rb := by omega
  have n3 : rk ≠ hb := by omega
  have hs0 : (⟨D, false⟩ : Rd).D.length ≤ 100000000 := hl
  have h0 : HS 515 rk rb hb 0 ⟨D, false⟩ (fun _ => .nilIface) W a W := ⟨z5, RW.of (s := ⟨D, false⟩) (by rw [hS_] at c1'; exact c1') hl, c2, c0', fun q hq => absurd hq (by omega), Fr.refl _ W⟩
  clear c0' c1' c2 z5
  rw [part_3]
  refine wp_seq (list_item hs0 n1 n2 n3 h0 fun a w1 vals h1 => ?_)
  show Code.wp _ (dropC 4 bodyH) _ a w1
  rw [part_4]
  refine wp_seq (list_lot hs0 n1 n2 n3 h1 fun a w2 vals h2 => ?_)
  show Code.wp _ (dropC 5 bodyH) _ a w2
  rw [part_5]
  refine wp_seq (list_zone hs0 n1 n2 n3 h2 fun a w3 vals h3 => ?_)
  show Code.wp _ (dropC 6 bodyH) _ a w3
  rw [part_6]
  refine wp_seq (list_bin hs0 n1 n2 n3 h3 fun a w4 vals h4 => ?_)
  show Code.wp _ (dropC 7 bodyH) _ a w4
  rw [part_7]
  refine wp_seq (list_quant hs0 n1 n2 n3 h4 fun a w5 vals h5 => ?_)
  show Code.wp _ (dropC 8 bodyH) _ a w5
  rw [part_8]
  refine wp_seq (list_rule hs0 n1 n2 n3 h5 fun a w6 vals h6 => ?_)
  show Code.wp _ (dropC 9 bodyH) _ a w6
  rw [part_9]
  refine wp_seq (list_notice hs0 n1 n2 n3 h6 fun a w7 vals h7 => ?_)
  show Code.wp _ (dropC 10 bodyH) _ a w7
  rw [part_10]
  refine wp_seq (list_order hs0 n1 n2 n3 h7 fun a w8 vals h8 => ?_)
  show Code.wp _ (dropC 11 bodyH) _ a w8
  rw [part_11]
  refine wp_seq (list_claim hs0 n1 n2 n3 h8 fun a w9 vals h9 => ?_)
  show Code.wp _ (dropC 12 bodyH) _ a w9
  rw [part_12]
  refine wp_seq (list_task hs0 n1 n2 n3 h9 fun a w10 vals h10 => ?_)
  show Code.wp _ (dropC 13 bodyH) _ a w10
  rw [part_13]
  refine wp_seq (list_parcel hs0 n1 n2 n3 h10 fun a w11 vals h11 => ?_)
  show Code.wp _ (dropC 14 bodyH) _ a w11
  rw [part_14]
  refine wp_seq (list_sent hs0 n1 n2 n3 h11 fun a w12 vals h12 => ?_)
  show Code.wp _ (dropC 15 bodyH) _ a w12
  rw [part_15]
  refine wp_seq (list_counted hs0 n1 n2 n3 h12 fun a w13 vals h13 => ?_)
  show Code.wp _ (dropC 16 bodyH) _ a w13
  rw [part_16]
  refine wp_seq (list_total hs0 n1 n2 n3 h13 fun a w14 vals h14 => ?_)
  show Code.wp _ (dropC 17 bodyH) _ a w14
  obtain ⟨t, ht⟩ : ∃ t, t = stH ⟨D, false⟩ 14 := ⟨_, rfl⟩
  have hS' : hS D = (takeN t).2 := by rw [ht]; unfold hS; rw [st_house_15_eq, stH_14]
  have hr0 := h14.rw_
  rw [← ht] at hr0
  rw [part_17]
  refine wp_seq (last_step (d := 500) (rows := fun q => (rdList (ksJ q) (stH ⟨D, false⟩ q)).2) ⟨rfl, rfl, rfl, rfl, rfl, ⟨_, rfl⟩, rfl, rfl, rfl, rfl, rfl, rfl⟩ (by decide) (by decide) n1 n2 n3 h14.h0 hr0 h14.cs h14.rk h14.own h14.fr fun a w15 hT => ?_)
  show Code.wp _ (dropC 18 bodyH) _ a w15
  have hown : ∀ (cs : List Value) (q : Nat), q < 14 → (w15.setCells rk 0 cs).ownsRow W.heap.size (TJ q) (szJ q) (vals q) (rdList (ksJ q) (stH ⟨D, false⟩ q)).2.length (rdList (ksJ q) (stH ⟨D, false⟩ q)).2.flatten := fun cs q hq => own_same (hT.own q hq) fun g hg => heap_setCells rk cs 0 w15 g (fun e => own_ne (hT.own q hq) hT.rk (TJ_ne q hq).2 (by rw [hg, e]))
  have hfin : ∀ (cs : List Value) (en : Int) (a' : Act), cs.length = 15 → HouseA (w15.setCells rk 0 cs) cs (hR D) (hZ D) → endN (hS D) = en → a'.defers = [] → a'.eval (.tmp 2) = .pointer (some ⟨rk, 0, none⟩) → a'.eval (.tmp 3) = .int .i64 en →
      bodyPost Try.prog Try.f8 (HouseV (endN (hS D)) (hR D) (hZ D) w) .ret a' (w15.setCells rk 0 cs) := by
    intro cs en a' hlc hA hen hd h2 h3
    refine ⟨hd, _, res_H h2 h3 (set_all hT.rk (by rw [hlc]; rfl)) hlc, ?_, cs, by rw [hen], hA⟩
    have f0 : Fr (fun i => i = rk ∨ i = rb ∨ i = hb) w W := Fr.of_below hB
    have f1 := f0.trans hT.fr fun i hi => .inl (.inr hi)
    obtain ⟨q1, q2, q3, q4⟩ := same_setCells rk cs 0 w15
    have f2 : Fr (fun i => i = rk ∨ i = rb ∨ i = hb) w (w15.setCells rk 0 cs) := ⟨q1.trans f1.os, q2.trans f1.tape, q3.trans f1.output, by rw [q4]; exact f1.size, fun i hi hn => (heap_setCells rk cs 0 w15 i (fun e => hn (.inl e))).trans (f1.block i hi hn)⟩
    exact f2.below fun i hi => by omega
  rw [part_18]
  refine wp_seq (wp_seq (wp_region_list ?_))
  show wpList _ _ _ [_, _, _, _] a w15
  refine peek_list (d := 503) (j := 1) (ty := 4) ⟨rfl, rfl, rfl, rfl, rfl, rfl, rfl, rfl, rfl, rfl, rfl, rfl⟩ (by decide) (by decide) hT.h0 (by simp [go_sem]) (by simp [go_sem]) hT.rw_.badCell.1 fun a g0 hv => wpList_nil ?_
  show Code.wp _ (Code.cond (.tmp 506) _ _) _ a w15
  by_cases hbad : (takeN t).2.bad = true
  · have he : endN (hS D) = 44 := by rw [hS']; unfold endN; rw [hbad]; rfl
    refine wp_cond_true (by rw [hv, hbad]) (fail_end (d := 507) (k := 44) rfl rfl rfl rfl rfl rfl rfl rfl rfl (by decide) (by decide) g0 hT.rk fun a' hd h2 h3 => ?_)
    obtain ⟨e1, e2⟩ := hR_bad (D := D) (by rw [he]; decide)
    exact hfin zsH 44 a' rfl (by rw [e1, e2]; exact houseA_nil _) he hd h2 h3
  · have hbf : (takeN t).2.bad = false := by simpa using hbad
    refine wp_cond_false (by rw [hv, hbf]) (wp_skip ?_)
    show Code.wp _ (dropC 19 bodyH) _ a w15
    rw [part_19]
    obtain ⟨D', _, heq, hr⟩ := hT.rw_
    have heq' := heq hbf
    refine wp_seq (wp_seq (wp_region_list ?_))
    show wpList _ _ _ [_, _, _, _, _] a w15
    refine peek_list (d := 508) (j := 0) (ty := 9) ⟨rfl, rfl, rfl, rfl, rfl, rfl, rfl, rfl, rfl, rfl, rfl, rfl⟩ (by decide) (by decide) g0 (by simp [go_sem]) (by simp [go_sem]) hr.cells.1 fun a g0 hv => ?_
    by_cases hD : D' = []
    · have he : endN (hS D) = 0 := by rw [hS']; unfold endN; rw [if_neg (by rw [hbf]; simp), if_pos (by rw [← heq', hD])]
      refine wpList_run rfl (.bool false) (by subst hD; unfold execOp; simp only [hv]; simp [go_sem]) (wpList_nil ?_)
      have g1 := g0.put (d := 512) (.bool false) (by decide) (by decide) (by decide)
      refine wp_cond_false (put_same _ (by rw [g0.size]; decide)) (wp_skip ?_)
      refine good_end (d := 514) rfl rfl rfl rfl rfl rfl rfl rfl rfl (by decide) (by decide) g1 hT.rk hT.cs (lastH_len _ _) (lastH_one fun q hq => one_rows (hT.own q hq)) fun a' hd h2 h3 => ?_
      refine hfin _ 0 a' (lastH_len _ _) ⟨lastH_len _ _, fun j hj => ?_, ?_⟩ he hd h2 h3
      · have hR' : hR D j = (rdList (ksJ j) (stH ⟨D, false⟩ j)).2 := by unfold hR; rw [if_pos he]
        rw [hR', lastH_row _ _ j hj]
        obtain ⟨A, c, e, hA⟩ := own_rowA (hown _ j hj) (rdList_fits _ _) (ksJ_len j) (rdList_few _ _ (Nat.le_trans (stH_len _ _) hl))
        exact ⟨A, c, by rw [e], hA⟩
      · rw [lastH_num]
        unfold hZ; rw [if_pos he, ht]
    · have he : endN (hS D) = 45 := by rw [hS']; unfold endN; rw [if_neg (by rw [hbf]; simp), if_neg (by rw [← heq']; exact hD)]
      refine wpList_run rfl (.bool true) (by unfold execOp; simp only [hv]; simp [go_sem, hD]) (wpList_nil ?_)
      have g1 := g0.put (d := 512) (.bool true) (by decide) (by decide) (by decide)
      refine wp_cond_true (put_same _ (by rw [g0.size]; decide)) ?_
      refine fail_end (d := 513) (k := 45) rfl rfl rfl rfl rfl rfl rfl rfl rfl (by decide) (by decide) g1 hT.rk fun a' hd h2 h3 => ?_
      obtain ⟨e1, e2⟩ := hR_bad (D := D) (by rw [he]; decide)
      exact hfin zsH 45 a' rfl (by rw [e1, e2]; exact houseA_nil _) he hd h2 h3
end Go.Proofs.Ytgdoodeibcfcjaa.Wire
