/- stevedorekeep.lent: a copy of a list that has something behind its length; once for all instances. Printed by blent.py. -/
import Derived.Test.YtgdoodeibcfcjaaGreatBLoop
set_option linter.unusedVariables false
set_option linter.unusedSimpArgs false
namespace Go.Proofs.YtgdoodeibcfcjaaGreat.Wire
open Go.RowKit Go.Proofs.YtgdoodeibcfcjaaGreat.NumsPure Go.Proofs.YtgdoodeibcfcjaaGreat.CPure Go.Proofs.YtgdoodeibcfcjaaGreat.Own
def Is (o : Oper) (p : Op) (d : Nat) : Prop := o.guard = none ∧ o.op = p ∧ o.dst = some d
section
variable {ops : Array Oper} {Q : Exit → Act → World → Prop} {rest : List Oper} {o : Oper} {a : Act} {w w' : World} {d : Nat} {p : Op}
theorem stp {v : Value} (hi : Is o p d) (hz : d < a.tmps.size) (hr : (execOp a.eval o).run Tryz.prog w = .ok (.value v) w') (h : ∀ a', Lo d a a' → a'.eval (.tmp d) = v → wpList Tryz.prog ops Q rest a' w') : wpList Tryz.prog ops Q (o :: rest) a w :=
  wpList_plain hi.1 fun K hK => by
    unfold Oper.wp
    rw [hr, Oper.upon_value, hi.2.2]
    exact hK _ _ (h _ ((Lo.refl d a).put (d := d) v (Nat.le_refl _)) (put_same _ hz))
theorem stp_mv {x : Operand} {v : Value} (hi : Is o (.move x) d) (hz : d < a.tmps.size) (hx : a.eval x = v) (h : ∀ a', Lo d a a' → a'.eval (.tmp d) = v → wpList Tryz.prog ops Q rest a' w) : wpList Tryz.prog ops Q (o :: rest) a w :=
  stp hi hz (w' := w) (by unfold execOp; simp only [hi.2.1, hx, Sem.run_pure]) h
theorem stp_as {x : Operand} {v : Value} (hi : Is o (.assign x) d) (hz : d < a.tmps.size) (hx : a.eval x = v) (h : ∀ a', Lo d a a' → a'.eval (.tmp d) = v → wpList Tryz.prog ops Q rest a' w) : wpList Tryz.prog ops Q (o :: rest) a w :=
  stp hi hz (w' := w) (by unfold execOp; simp only [hi.2.1, hx, Sem.run_pure]) h
theorem stp_len {S E : TypeId} {s n c : Nat} {A : Option Addr} (hi : Is o (.call { callee := .builtin .len, args := #[.tmp s], argTypes := #[S] }) d) (hu : Tryz.prog.underlying S = some (.slice E)) (hz : d < a.tmps.size) (hx : a.eval (.tmp s) = .slice A n c) (h : ∀ a', Lo d a a' → a'.eval (.tmp d) = .int .i64 (n : Int) → wpList Tryz.prog ops Q rest a' w) : wpList Tryz.prog ops Q (o :: rest) a w := by
  have q : a.tmps[s]?.getD undef = .slice A n c := by rw [← hx]; simp [Act.eval, Array.getD_eq_getD_getElem?]
  exact stp hi hz (w' := w) (by unfold execOp; simp [go_sem, hi.2.1, q, len_at hu]) h
end
theorem run_append_empty (S E ty : TypeId) (i : TypeInfo) (hu : Tryz.prog.underlying S = some (.slice E)) (hi : Tryz.prog.info? E = some i) (w : World) (g l c c' : Nat) (A : Option Addr) (hlc : l ≤ c) : (Builtin.append_ #[S, S] ty #[.slice (some ⟨g, 0, none⟩) l c, .slice A 0 c']).run Tryz.prog w = .ok (.slice (some ⟨g, 0, none⟩) l c) w := by
  have hf : (Builtin.firstCells i.size 0 (.slice A 0 c')).run Tryz.prog w = .ok #[] w := by
    cases A with
    | none => exact run_firstCells_none w i.size 0 0 c'
    | some b => exact run_firstCells_some w i.size 0 b 0 c' [] (by simp) (fun j v h => by simp at h)
  simp [Builtin.append_, run_underlying hu, sizeOf, typeInfo, hi, Builtin.lenOf, hf, hlc, storeCells]
/-- Its operations. -/
structure LentOps (S T : TypeId) (a1 a2 b1 b2 b3 b4 b5 c1 c2 c3 c4 d1 d2 d3 d4 d5 e1 e2 e3 e4 e5 : Oper) : Prop where
  a1 : Is a1 (.box T (.tmp 1)) 3
  a2 : Is a2 (.assign (.const (.slice none 0 0))) 4
  b1 : Is b1 (.move (.tmp 0)) 6
  b2 : Is b2 (.call { callee := .builtin .len, args := #[.tmp 6], argTypes := #[S] }) 7
  b3 : ∃ r, Is b3 (.binOp .add 3 (.tmp 7) (.const (.int .i64 1)) r) 8
  b4 : Is b4 (.makeSlice S (.const (.int .i64 0)) (.tmp 8)) 9
  b5 : Is b5 (.assign (.tmp 9)) 5
  c1 : Is c1 (.move (.tmp 5)) 10
  c2 : Is c2 (.move (.tmp 0)) 11
  c3 : Is c3 (.call { callee := .builtin .append, args := #[.tmp 10, .tmp 11], argTypes := #[S, S] }) 12
  c4 : Is c4 (.assign (.tmp 12)) 5
  d1 : Is d1 (.move (.tmp 5)) 13
  d2 : Is d2 (.load T (.tmp 3)) 14
  d3 : Is d3 (.buildSlice S 1 #[(0, .tmp 14)]) 15
  d4 : Is d4 (.call { callee := .builtin .append, args := #[.tmp 13, .tmp 15], argTypes := #[S, S] }) 16
  d5 : Is d5 (.assign (.tmp 16)) 5
  e1 : Is e1 (.move (.tmp 5)) 17
  e2 : Is e2 (.move (.tmp 0)) 18
  e3 : Is e3 (.call { callee := .builtin .len, args := #[.tmp 18], argTypes := #[S] }) 19
  e4 : Is e4 (.slice S (.tmp 17) none (some (.tmp 19)) none) 20
  e5 : Is e5 (.assign (.tmp 20)) 4
/-- A lent list: it reads as the list, and behind its length stands the other thing. -/
def LentR (T : TypeId) (sz : Nat) (ks : List K) (rows : List (List Value)) (y : List Value) (w : World) (e : Ending) (w' : World) : Prop := ∃ A c, e = .returned (.slice A rows.length c) ∧ RowA w' A sz ks c (rows ++ [y]) ∧ Below w.heap.size w w' ∧ ∀ ad, A = some ad → w.heap.size ≤ ad.block
theorem run_boxL {o : Oper} {T : TypeId} {cs : Array Value} {ρ : Operand → Value} {x : Operand} (p : o.op = .box T x) (hx : ρ x = .agg cs) (w : World) : (execOp ρ o).run Tryz.prog w = .ok (.value (.pointer (some ⟨w.heap.size, 0, none⟩))) (w.alloc (.cells cs T)) := by
  unfold execOp
  simp [p, hx, Instr.box, Sem.run_bind, newVar, newRow, Value.cells, go_sem]
theorem fits_flat {ks : List K} {rows : List (List Value)} (h : ∀ x ∈ rows, Fits ks x) : rows.flatten.length = rows.length * ks.length ∧ ∀ u ∈ rows.flatten, u.oneCell' = true := by
  induction rows with
  | nil => simp
  | cons x rows ih =>
    obtain ⟨h1, h2⟩ := ih fun y hy => h y (List.mem_cons_of_mem _ hy)
    refine ⟨?_, fun u hu => ?_⟩
    · simp only [List.flatten_cons, List.length_append, List.length_cons, h1, fits_len (h x List.mem_cons_self), Nat.succ_mul]; omega
    · rw [List.flatten_cons] at hu
      rcases List.mem_append.1 hu with q | q
      · exact fits_one (h x List.mem_cons_self) u q
      · exact h2 u q
theorem flat_split {k : Nat} (hk : 0 < k) : ∀ (rows : List (List Value)) (j : Nat) (u : Value), (∀ y ∈ rows, y.length = k) → rows.flatten[j]? = some u → ∃ x, rows[j / k]? = some x ∧ x[j % k]? = some u
  | [], j, u, _, h => by simp at h
  | x :: rows, j, u, hl, h => by
    have hx := hl x List.mem_cons_self
    rw [List.flatten_cons] at h
    by_cases hj : j < k
    · rw [List.getElem?_append_left (by omega)] at h
      rw [Nat.div_eq_of_lt hj, Nat.mod_eq_of_lt hj]
      exact ⟨x, rfl, h⟩
    · rw [List.getElem?_append_right (by omega), hx] at h
      obtain ⟨y, h1, h2⟩ := flat_split hk rows (j - k) u (fun y hy => hl y (List.mem_cons_of_mem _ hy)) h
      have e1 : j / k = (j - k) / k + 1 := by rw [← Nat.sub_add_cancel (show k ≤ j by omega), Nat.add_div_right _ hk]; simp
      have e2 : j % k = (j - k) % k := by conv => lhs; rw [← Nat.sub_add_cancel (show k ≤ j by omega), Nat.add_mod_right]
      rw [e1, e2]
      exact ⟨y, by simpa using h1, h2⟩
theorem RowA.flat {w : World} {A : Option Addr} {k c : Nat} {ks : List K} {rows : List (List Value)} (h : RowA w A k ks c rows) (hk : ks.length = k) (h0 : 0 < k) (hn : 0 < rows.length) : ∃ ad, A = some ad ∧ ∀ j u, rows.flatten[j]? = some u → w.cell? (ad.add j) = some u := by
  obtain ⟨ad, e, _, hc⟩ := h.at_ hn
  refine ⟨ad, e, fun j u hu => ?_⟩
  obtain ⟨x, h1, h2⟩ := flat_split h0 rows j u (fun y hy => by rw [fits_len (h.fits y hy), hk]) hu
  have := hc _ x h1 _ u h2
  rw [show j / k * k + j % k = j by rw [Nat.mul_comm]; exact Nat.div_add_mod j k] at this
  exact this
theorem res_4 {f : Func} (er : f.results = #[.tmp 4]) {a : Act} {w : World} {v : Value} (e2 : a.eval (.tmp 4) = v) : (results f a.tmps).run Tryz.prog w = .ok v w := by
  unfold results
  rw [er]
  have e2' : a.tmps[4]?.getD undef = v := by rw [← e2]; simp [Act.eval, Array.getD_eq_getD_getElem?]
  simp [Sem.run_bind, e2']
theorem args2 (x y : Value) (k : Nat) : (({ tmps := #[x, y] ++ Array.replicate k undef, defers := [] } : Act).eval (.tmp 0) = x) ∧ (({ tmps := #[x, y] ++ Array.replicate k undef, defers := [] } : Act).eval (.tmp 1) = y) := by
  constructor <;> simp [Act.eval, Array.getD_eq_getD_getElem?, Array.getElem?_append]
set_option maxHeartbeats 1000000 in
theorem lent_any {S T : TypeId} {fn sz by_ : Nat} {f : Func} {ks : List K} {zv : Value} {dt : TypeDesc} {i0 i1 i2 i3 i4 : Nat} {a1 a2 b1 b2 b3 b4 b5 c1 c2 c3 c4 d1 d2 d3 d4 d5 e1 e2 e3 e4 e5 : Oper} (hf : Tryz.prog.funcs[fn]? = some f) (hn : f.ntmps = 21) (er : f.results = #[.tmp 4])
    (hb : f.body = some (.seq (.region i0 #[a1, a2] false) (.seq (.region i1 #[b1, b2, b3, b4, b5] false) (.seq (.region i2 #[c1, c2, c3, c4] false) (.seq (.region i3 #[d1, d2, d3, d4, d5] false) (.seq (.region i4 #[e1, e2, e3, e4, e5] false) .ret))))))
    (ho : LentOps S T a1 a2 b1 b2 b3 b4 b5 c1 c2 c3 c4 d1 d2 d3 d4 d5 e1 e2 e3 e4 e5) (hu : Tryz.prog.underlying S = some (.slice T)) (hut : Tryz.prog.underlying T = some dt) (hdr : dt.isRow = true) (hI : (Tryz.prog.info? T).map (fun i => (i.zero, i.size, i.bytes)) = some (some zv, sz, by_)) (hzv : zv.cells.size = sz) (hks : ks.length = sz) (h0 : 0 < sz) (h1 : sz ≤ 1000) (hby : by_ ≤ 1000)
    {A : Option Addr} {c : Nat} {rows : List (List Value)} {y : List Value} {w : World} (hr : RowA w A sz ks c rows) (hy : Fits ks y) (hl : rows.length ≤ 2000000) : Calls Tryz.prog fn #[.slice A rows.length c, .agg y.toArray] w (LentR T sz ks rows y w) := by
  obtain ⟨inf, hi0, hi1, hi2, hi3⟩ := infoParts hI
  obtain ⟨hfl, hf1⟩ := fits_flat hr.fits
  rw [hks] at hfl
  have hyl : y.length = sz := by rw [fits_len hy, hks]
  have hpn : (Tryz.prog.info? T).map (·.size) = some sz := by rw [hi0]; simp [hi2]
  obtain ⟨n, hn0⟩ : ∃ n, n = rows.length := ⟨_, rfl⟩
  have hmul : n * by_ ≤ n * 1000 := Nat.mul_le_mul_left _ hby
  refine calls_of_wp hf hb ?_
  obtain ⟨a, ha⟩ : ∃ a : Act, a = { tmps := #[.slice A rows.length c, .agg y.toArray] ++ Array.replicate (f.ntmps - (#[Value.slice A rows.length c, .agg y.toArray] : Array Value).size) undef, defers := [] } := ⟨_, rfl⟩
  rw [← ha]
  rw [hn] at ha
  have z0 : a.tmps.size = 21 := by rw [ha]; simp
  have df : a.defers = [] := by rw [ha]
  have s0 : a.eval (.tmp 0) = .slice A rows.length c := by rw [ha]; exact (args2 _ _ _).1
  have s1 : a.eval (.tmp 1) = .agg y.toArray := by rw [ha]; exact (args2 _ _ _).2
  clear ha
  rw [← hn0] at s0 hl hfl
  -- the box
  refine wp_seq (wp_region_list ?_)
  show wpList _ _ _ [a1, a2] a w
  refine stp ho.a1 (by omega) (run_boxL ho.a1.2.1 s1 w) fun f1 l1 s3 => ?_
  have s0 := (l1.low 0 (by decide)).trans s0; have z0 := l1.size.trans z0; have df := l1.defers.trans df
  refine stp_as ho.a2 (by omega) rfl fun f2 l2 _ => wpList_nil ?_
  have s0 := (l2.low 0 (by decide)).trans s0; have z0 := l2.size.trans z0; have df := l2.defers.trans df; have s3 := (l2.low 3 (by decide)).trans s3
  have hcs : Cs w.heap.size T y (w.alloc (.cells y.toArray T)) := cs_alloc _ _ _ _ rfl
  have hB1 := alloc_below w (.cells y.toArray T)
  have hcs0 : w.heap.size < (w.alloc (.cells y.toArray T)).heap.size := by simp
  show Code.wp _ (Code.seq _ _) _ f2 (w.alloc (.cells y.toArray T))
  generalize w.alloc (.cells y.toArray T) = w1 at hcs hB1 hcs0
  -- the row
  refine wp_seq (wp_region_list ?_)
  show wpList _ _ _ [b1, b2, b3, b4, b5] f2 w1
  refine stp_mv ho.b1 (by omega) s0 fun g1 l1 t6 => ?_
  have s0 := (l1.low 0 (by decide)).trans s0; have z0 := l1.size.trans z0; have df := l1.defers.trans df; have s3 := (l1.low 3 (by decide)).trans s3
  refine stp_len ho.b2 hu (by omega) t6 fun g2 l2 t7 => ?_
  have s0 := (l2.low 0 (by decide)).trans s0; have z0 := l2.size.trans z0; have df := l2.defers.trans df; have s3 := (l2.low 3 (by decide)).trans s3
  obtain ⟨r3, hb3⟩ := ho.b3
  have hwr : IntKind.i64.wrap ((n : Int) + 1) = ((n + 1 : Nat) : Int) := by rw [IntWalk.i64_in _ (by omega)]; omega
  have hrun : (binOp .add 3 (.int .i64 (n : Int)) (.int .i64 1)).run Tryz.prog w1 = .ok (.int .i64 ((n + 1 : Nat) : Int)) w1 := by
    simp only [binOp, Op.intArith]
    simp [hwr]
  have ec : g2.eval (.const (.int .i64 1)) = .int .i64 1 := rfl
  refine stp hb3 (by omega) (w' := w1) (v := .int .i64 ((n + 1 : Nat) : Int)) (by unfold execOp; simp only [hb3.2.1, t7, ec]; generalize ((n + 1 : Nat) : Int) = z at hrun; simp [eqGuard, hrun]) fun g3 l3 t8 => ?_
  have s0 := (l3.low 0 (by decide)).trans s0; have z0 := l3.size.trans z0; have df := l3.defers.trans df; have s3 := (l3.low 3 (by decide)).trans s3
  have hmk := run_make_own (P := Tryz.prog) w1 w.heap.size S T inf zv sz hu hi0 hi1 hi2 .i64 .i64 (n + 1) (by rw [hi3, Nat.mul_comm, Nat.add_mul, Nat.one_mul]; omega) (by unfold maxLen; omega) hB1.size
  obtain ⟨w2, hm, hown, hgr⟩ := hmk
  have ec0 : g3.eval (.const (.int .i64 0)) = .int .i64 0 := rfl
  refine stp ho.b4 (by omega) (w' := w2) (v := .slice (some ⟨w1.heap.size, 0, none⟩) 0 (n + 1)) (by unfold execOp; simp only [ho.b4.2.1, t8, ec0, Sem.run_bind, hm, Result.andThen_ok, Sem.run_pure]) fun g4 l4 t9 => ?_
  have s0 := (l4.low 0 (by decide)).trans s0; have z0 := l4.size.trans z0; have df := l4.defers.trans df; have s3 := (l4.low 3 (by decide)).trans s3
  refine stp_as ho.b5 (by omega) t9 fun g5 l5 s5 => wpList_nil ?_
  have s0 := (l5.low 0 (by decide)).trans s0; have z0 := l5.size.trans z0; have df := l5.defers.trans df; have s3 := (l5.low 3 (by decide)).trans s3
  have hB2 : Below w.heap.size w w2 := hB1.grown hgr hB1.size (fun k hk => by cases hk)
  have hcs := hcs.keep (hgr.block _ hcs.lt (by simp))
  show Code.wp _ (Code.seq _ _) _ g5 w2
  have hrow2 := hr.below hB2
  clear hm hgr l1 l2 l3 l4 l5 t6 t7 t8 t9 hrun
  -- the list
  refine wp_seq (wp_region_list ?_)
  show wpList _ _ _ [c1, c2, c3, c4] g5 w2
  refine stp_mv ho.c1 (by omega) s5 fun k1 l1 t10 => ?_
  have s0 := (l1.low 0 (by decide)).trans s0; have z0 := l1.size.trans z0; have df := l1.defers.trans df; have s3 := (l1.low 3 (by decide)).trans s3
  refine stp_mv ho.c2 (by omega) s0 fun k2 l2 t11 => ?_
  have s0 := (l2.low 0 (by decide)).trans s0; have z0 := l2.size.trans z0; have df := l2.defers.trans df; have s3 := (l2.low 3 (by decide)).trans s3; have t10 := (l2.low 10 (by decide)).trans t10
  have key : ∀ (v5 : Value) (w3 : World) (k5 : Act), k5.tmps.size = 21 → k5.defers = [] → k5.eval (.tmp 0) = .slice A n c → k5.eval (.tmp 3) = .pointer (some ⟨w.heap.size, 0, none⟩) → k5.eval (.tmp 5) = v5 → w3.ownsRow w.heap.size T sz v5 n rows.flatten → Below w.heap.size w w3 → Cs w.heap.size T y w3 → (∃ g cp, v5 = .slice (some ⟨g, 0, none⟩) n cp) →
      Code.wp Tryz.prog (.seq (.region i3 #[d1, d2, d3, d4, d5] false) (.seq (.region i4 #[e1, e2, e3, e4, e5] false) .ret)) (bodyPost Tryz.prog f (LentR T sz ks rows y w)) k5 w3 := by
    intro v5 w3 k5 z0 df s0 s3 s5 hown hB3 hcs _
    refine wp_seq (wp_region_list ?_)
    show wpList _ _ _ [d1, d2, d3, d4, d5] k5 w3
    refine stp_mv ho.d1 (by omega) s5 fun m1 l1 t13 => ?_
    have s0 := (l1.low 0 (by decide)).trans s0; have z0 := l1.size.trans z0; have df := l1.defers.trans df; have s3 := (l1.low 3 (by decide)).trans s3
    refine wpList_load_at ho.d2.1 T (.tmp 3) ho.d2.2.1 ⟨w.heap.size, 0, none⟩ s3 y dt (fun j v hv => by rw [show (⟨w.heap.size, 0, none⟩ : Addr).add j = ⟨w.heap.size, j, none⟩ by unfold Addr.add; split <;> simp_all, hcs.cell]; exact hv) hut hdr (by rw [hyl]; exact hpn) ?_
    rw [ho.d2.2.2]
    have l2 := (Lo.refl 14 m1).put (d := 14) (.agg y.toArray) (Nat.le_refl _)
    have t14 : (m1.put (some 14) (.agg y.toArray)).eval (.tmp 14) = .agg y.toArray := put_same _ (by omega)
    generalize m1.put (some 14) (.agg y.toArray) = m2 at l2 t14
    have s0 := (l2.low 0 (by decide)).trans s0; have z0 := l2.size.trans z0; have df := l2.defers.trans df; have t13 := (l2.low 13 (by decide)).trans t13
    refine wpList_build_one ho.d3.1 S T (.tmp 14) ho.d3.2.1 y t14 inf zv sz hu hi0 hi1 hi2 hyl h0 h1 ?_
    rw [ho.d3.2.2]
    have l3 := (Lo.refl 15 m2).put (d := 15) (.slice (some ⟨w3.heap.size, 0, none⟩) 1 1) (Nat.le_refl _)
    have t15 : (m2.put (some 15) (.slice (some ⟨w3.heap.size, 0, none⟩) 1 1)).eval (.tmp 15) = .slice (some ⟨w3.heap.size, 0, none⟩) 1 1 := put_same _ (by omega)
    generalize m2.put (some 15) (.slice (some ⟨w3.heap.size, 0, none⟩) 1 1) = m3 at l3 t15
    have s0 := (l3.low 0 (by decide)).trans s0; have z0 := l3.size.trans z0; have df := l3.defers.trans df; have t13 := (l3.low 13 (by decide)).trans t13
    refine wpList_append_lies _ ho.d4.1 (.tmp 13) (.tmp 15) S ho.d4.2.1 w.heap.size T inf zv sz by_ hu hi0 hi1 hi2 hi3 hzv h0 v5 n rows.flatten t13 (hown.alloc _) ⟨w3.heap.size, 0, none⟩ 1 1 y t15 (by rw [hyl, Nat.one_mul])
      (World.news_of_block (cs := y.toArray) (t := T) (fr := (0, 0)) (heap_alloc_new w3 _)) (fits_one hy) (by omega) (by unfold maxLen; omega) (by rw [Nat.add_mul, Nat.one_mul]; omega) (by have := hB3.size; simp; omega) (w3.heap.size + 1) (by simp) ?_
    intro gg cap w4 hown4 hgr _ _
    rw [ho.d4.2.2]
    have l4 := (Lo.refl 16 m3).put (d := 16) (.slice (some ⟨gg, 0, none⟩) (n + 1) cap) (Nat.le_refl _)
    have t16 : (m3.put (some 16) (.slice (some ⟨gg, 0, none⟩) (n + 1) cap)).eval (.tmp 16) = .slice (some ⟨gg, 0, none⟩) (n + 1) cap := put_same _ (by omega)
    generalize m3.put (some 16) (.slice (some ⟨gg, 0, none⟩) (n + 1) cap) = m4 at l4 t16
    have s0 := (l4.low 0 (by decide)).trans s0; have z0 := l4.size.trans z0; have df := l4.defers.trans df
    refine stp_as ho.d5 (by omega) t16 fun m5 l5 s5 => wpList_nil ?_
    have s0 := (l5.low 0 (by decide)).trans s0; have z0 := l5.size.trans z0; have df := l5.defers.trans df
    have hB4 : Below w.heap.size w w4 := (hB3.alloc hB3.size _).grown hgr (by have := hB3.size; simp; omega) (fun k hk => (hown.lt k hk).1)
    show Code.wp _ (Code.seq _ _) _ m5 w4
    refine wp_seq (wp_region_list ?_)
    show wpList _ _ _ [e1, e2, e3, e4, e5] m5 w4
    refine stp_mv ho.e1 (by omega) s5 fun p1 l1 t17 => ?_
    have s0 := (l1.low 0 (by decide)).trans s0; have z0 := l1.size.trans z0; have df := l1.defers.trans df
    refine stp_mv ho.e2 (by omega) s0 fun p2 l2 t18 => ?_
    have z0 := l2.size.trans z0; have df := l2.defers.trans df; have t17 := (l2.low 17 (by decide)).trans t17
    refine stp_len ho.e3 hu (by omega) t18 fun p3 l3 t19 => ?_
    have z0 := l3.size.trans z0; have df := l3.defers.trans df; have t17 := (l3.low 17 (by decide)).trans t17
    have hrows : (rows ++ [y]).length = n + 1 := by rw [List.length_append, hn0]; rfl
    obtain ⟨A', c', e, hR⟩ := own_rowA (B := w.heap.size) (T := T) (ks := ks) (rows := rows ++ [y]) (v := .slice (some ⟨gg, 0, none⟩) (n + 1) cap) (w := w4) (k := sz) (by rw [hrows, List.flatten_append]; simpa using hown4) (fun x hx => by
      rcases List.mem_append.1 hx with q | q
      · exact hr.fits x q
      · rw [List.mem_singleton.1 q]; exact hy) hks (by rw [hrows]; omega)
    have hcap := hR.cap
    rw [hrows] at e hcap
    obtain ⟨rfl, rfl⟩ : (some ⟨gg, 0, none⟩ : Option Addr) = A' ∧ cap = c' := by cases e; exact ⟨rfl, rfl⟩
    have huE : Tryz.prog.underlying S = some (.slice (Tryz.prog.elem S)) := by
      have : Tryz.prog.elem S = T := by simp [Program.elem, hu]
      rw [this]; exact hu
    have hsl : (Instr.sliceAt S (.slice (some ⟨gg, 0, none⟩) (n + 1) cap) none (some (.int .i64 (n : Int))) none).run Tryz.prog w4 = .ok (.slice (some ⟨gg, 0, none⟩) n cap) w4 := by
      have hel : Tryz.prog.elem S = T := by simp [Program.elem, hu]
      have h2 := run_slice_h (P := Tryz.prog) (w := w4) (t := S) (a := some ⟨gg, 0, none⟩) (len := n + 1) (cap := cap) (ht := huE) (kh := .i64) (h := (n : Int)) (by omega) (by omega)
      rw [run_sliceAt_slice (h := huE), h2, hel]
      have hc0 : cap ≠ 0 := by omega
      simp [sizeOf, typeInfo, hi0, sliced, hc0, addr_add0]
    refine stp ho.e4 (by omega) (w' := w4) (v := .slice (some ⟨gg, 0, none⟩) n cap) (by unfold execOp; simp only [ho.e4.2.1, t17, t19, Option.map_some, Option.map_none, Sem.run_bind, hsl, Result.andThen_ok, Sem.run_pure]) fun p4 l4 t20 => ?_
    have z0 := l4.size.trans z0; have df := l4.defers.trans df
    refine stp_as ho.e5 (by omega) t20 fun p5 l5 s4 => wpList_nil ?_
    have df := l5.defers.trans df
    show Code.wp _ Code.ret _ p5 w4
    exact wp_ret ⟨df, _, res_4 er s4, _, cap, by rw [hn0], hR, hB4, fun ad e => by cases e; exact (hown4.lt gg rfl).1⟩
  by_cases hpos : 0 < n
  · obtain ⟨ad, rfl, hflat⟩ := hrow2.flat hks h0 (by omega)
    refine wpList_append_lies _ ho.c3.1 (.tmp 10) (.tmp 11) S ho.c3.2.1 w.heap.size T inf zv sz by_ hu hi0 hi1 hi2 hi3 hzv h0 (.slice (some ⟨w1.heap.size, 0, none⟩) 0 (n + 1)) 0 [] t10 hown ad n c rows.flatten t11 hfl hflat hf1 hpos (by unfold maxLen; omega) (by rw [Nat.zero_add]; omega) hB2.size w2.heap.size rfl ?_
    intro gg cap w3 hown3 hgr _ _
    rw [ho.c3.2.2]
    have l3 := (Lo.refl 12 k2).put (d := 12) (.slice (some ⟨gg, 0, none⟩) (0 + n) cap) (Nat.le_refl _)
    have t12 : (k2.put (some 12) (.slice (some ⟨gg, 0, none⟩) (0 + n) cap)).eval (.tmp 12) = .slice (some ⟨gg, 0, none⟩) (0 + n) cap := put_same _ (by omega)
    generalize k2.put (some 12) (.slice (some ⟨gg, 0, none⟩) (0 + n) cap) = k3 at l3 t12
    have s0 := (l3.low 0 (by decide)).trans s0; have z0 := l3.size.trans z0; have df := l3.defers.trans df; have s3 := (l3.low 3 (by decide)).trans s3
    rw [Nat.zero_add] at t12 hown3
    refine stp_as ho.c4 (by omega) t12 fun k4 l4 s5 => wpList_nil ?_
    have hne : (Value.slice (some ⟨w1.heap.size, 0, none⟩) 0 (n + 1)).ownBlock ≠ some w.heap.size := by
      simp only [Value.ownBlock]
      intro e
      have h2 := hB1.size
      have : w1.heap.size = w.heap.size := by simpa using e
      have := hcs0
      omega
    exact key _ w3 k4 (l4.size.trans z0) (l4.defers.trans df) ((l4.low 0 (by decide)).trans s0) ((l4.low 3 (by decide)).trans s3) s5 (by simpa using hown3) (hB2.grown hgr hB2.size (fun k hk => (hown.lt k hk).1)) (hcs.keep (hgr.block _ hcs.lt (fun e => hne e.symm))) ⟨_, _, rfl⟩
  · obtain rfl : n = 0 := by omega
    have hr0 : rows = [] := List.length_eq_zero_iff.1 hn0.symm
    have hem := run_append_empty S T c3.type inf hu hi0 w2 w1.heap.size 0 1 c A (by omega)
    refine stp ho.c3 (by omega) (w' := w2) (v := .slice (some ⟨w1.heap.size, 0, none⟩) 0 1) (by unfold execOp; simp only [ho.c3.2.1, resolve, invoke, builtin, Sem.run_bind, Sem.run_pure, Result.andThen_ok, List.map_toArray, List.map_cons, List.map_nil, t10, t11, hem]) fun k3 l3 t12 => ?_
    have s0 := (l3.low 0 (by decide)).trans s0; have z0 := l3.size.trans z0; have df := l3.defers.trans df; have s3 := (l3.low 3 (by decide)).trans s3
    refine stp_as ho.c4 (by omega) t12 fun k4 l4 s5 => wpList_nil ?_
    exact key _ w2 k4 (l4.size.trans z0) (l4.defers.trans df) ((l4.low 0 (by decide)).trans s0) ((l4.low 3 (by decide)).trans s3) s5 (by rw [hr0]; exact hown) hB2 hcs ⟨_, _, rfl⟩
end Go.Proofs.YtgdoodeibcfcjaaGreat.Wire
