/- The reference's Bytes: a list's count and loop; the functions that spell. Printed by bloop.py. -/
import Derived.Test.YtgdoodeibcfcjaaGreatBOps
set_option linter.unusedVariables false
set_option linter.unusedSimpArgs false
namespace Go.Proofs.YtgdoodeibcfcjaaGreat.Wire
open Go.RowKit Go.Proofs.YtgdoodeibcfcjaaGreat.NumsPure Go.Proofs.YtgdoodeibcfcjaaGreat.CPure Go.Proofs.YtgdoodeibcfcjaaGreat.Own
open Go.Proofs.YtgdoodeibcfcjaaGreat.Put (digits digits_lt digits_ge)
theorem up_loop {ct hs n b b1 : Nat} {startC headC body incC : Code} (St : Nat → Act → World → Prop) (Mid : Nat → Act → World → Prop) {S0 : Act → World → Prop}
    (hstart : ∀ a w Q, S0 a w → (∀ a', St 0 a' w → a'.eval (.tmp ct) = .int .i64 ((0 : Nat) : Int) → Q .normal a' w) → startC.wp Tryz.prog Q a w)
    (hhead : ∀ a w i Q, i ≤ n → St i a w → a.eval (.tmp ct) = .int .i64 (i : Int) → (∀ a', St i a' w → a'.eval (.tmp ct) = .int .i64 (i : Int) → a'.eval (.tmp hs) = .bool (decide (i < n)) → Q .normal a' w) → headC.wp Tryz.prog Q a w)
    (hbody : ∀ a w i Q, i < n → St i a w → a.eval (.tmp ct) = .int .i64 (i : Int) → (∀ a' w', Mid i a' w' → a'.eval (.tmp ct) = .int .i64 (i : Int) → Q .normal a' w') → body.wp Tryz.prog Q a w)
    (hinc : ∀ a w i Q, i < n → Mid i a w → a.eval (.tmp ct) = .int .i64 (i : Int) → (∀ a', St (i + 1) a' w → a'.eval (.tmp ct) = .int .i64 ((i + 1 : Nat) : Int) → Q .normal a' w) → incC.wp Tryz.prog Q a w)
    {a : Act} {w : World} {Q : Exit → Act → World → Prop} (h0 : S0 a w) (h : ∀ a' w', St n a' w' → Q .normal a' w') :
    (Code.seq startC (Code.block b (Code.loop (Code.seq (Code.seq headC (Code.cond (.tmp hs) Code.skip (Code.exit b))) (Code.seq (Code.block b1 body) incC))))).wp Tryz.prog Q a w := by
  refine wp_seq (hstart a w _ h0 fun a1 s1 c1 => ?_)
  show Code.wp _ (Code.block _ _) _ a1 w
  refine wp_block ?_
  refine wp_loop (fun a w => ∃ i : Nat, i ≤ n ∧ St i a w ∧ a.eval (.tmp ct) = .int .i64 (i : Int)) (fun a _ => n - (intOf (a.eval (.tmp ct))).toNat) ⟨0, by omega, s1, c1⟩ ?_
  rintro a w ⟨i, hi, hs', hc⟩
  refine wp_seq (wp_seq (hhead a w i _ hi hs' hc fun a2 s2 c2 v2 => ?_))
  show Code.wp _ (Code.cond _ _ _) _ a2 w
  by_cases hlt : i < n
  · refine wp_cond_true (by rw [v2]; simp [hlt]) (wp_skip ?_)
    show Code.wp _ (Code.seq _ _) _ a2 w
    refine wp_seq (wp_block (hbody a2 w i _ hlt s2 c2 fun a3 w3 s3 c3 => ?_))
    show Code.wp _ incC _ a3 w3
    refine hinc a3 w3 i _ hlt s3 c3 fun a4 s4 c4 => ?_
    refine ⟨⟨i + 1, by omega, s4, c4⟩, ?_⟩
    rw [c4, hc]
    simp only [intOf]
    omega
  · obtain rfl : n = i := by omega
    refine wp_cond_false (by rw [v2]; simp) (wp_exit ?_)
    show Exit.inBlock b Q (.exit b) a2 w
    simp only [Exit.inBlock, if_true]
    exact h a2 w s2
theorem start_pl {ct : Nat} {p0 : Oper} {id : Nat} {a : Act} {w : World} {Q : Exit → Act → World → Prop} (g : p0.guard = none) (p : p0.op = .assign (.const (.int .i64 0))) (hd : p0.dst = some ct) (hz : ct < a.tmps.size)
    (h : ∀ a', Lo ct a a' → (∀ s : Nat, s ≠ ct → a'.eval (.tmp s) = a.eval (.tmp s)) → a'.eval (.tmp ct) = .int .i64 ((0 : Nat) : Int) → Q .normal a' w) : (Code.region id #[p0] false).wp Tryz.prog Q a w := by
  refine wp_region_list ?_
  show wpList _ _ _ [p0] a w
  refine wpList_mv g (.const (.int .i64 0)) (.inr p) ?_
  rw [hd]
  exact wpList_nil (h _ ((Lo.refl ct a).put (d := ct) _ (Nat.le_refl _)) (fun s hs => put_other _ hs) ((put_same _ hz).trans rfl))
structure IncOps (ct d : Nat) (o1 o2 o3 : Oper) : Prop where
  g1 : o1.guard = none
  g2 : o2.guard = none
  g3 : o3.guard = none
  p1 : o1.op = .move (.tmp ct)
  p2 : ∃ r, o2.op = .binOp .add 3 (.tmp d) (.const (.int .i64 1)) r
  p3 : o3.op = .assign (.tmp (d + 1))
  d1 : o1.dst = some d
  d2 : o2.dst = some (d + 1)
  d3 : o3.dst = some ct
theorem inc_pl {ct d i : Nat} {o1 o2 o3 : Oper} {id : Nat} {a : Act} {w : World} {Q : Exit → Act → World → Prop} (ho : IncOps ct d o1 o2 o3) (hct : ct < d) (hz : d + 1 < a.tmps.size) (hc : a.eval (.tmp ct) = .int .i64 (i : Int)) (hi : i ≤ 1000000000)
    (h : ∀ a', a'.tmps.size = a.tmps.size → a'.defers = a.defers → (∀ s : Nat, s < d → s ≠ ct → a'.eval (.tmp s) = a.eval (.tmp s)) → a'.eval (.tmp ct) = .int .i64 ((i + 1 : Nat) : Int) → Q .normal a' w) : (Code.region id #[o1, o2, o3] false).wp Tryz.prog Q a w := by
  refine wp_region_list ?_
  show wpList _ _ _ [o1, o2, o3] a w
  refine wpList_mv ho.g1 (.tmp ct) (.inl ho.p1) ?_
  rw [ho.d1, hc]
  have l1 := (Lo.refl d a).put (d := d) (.int .i64 (i : Int)) (Nat.le_refl _)
  have v1 : (a.put (some d) (.int .i64 (i : Int))).eval (.tmp d) = .int .i64 (i : Int) := put_same _ (by omega)
  generalize a.put (some d) (.int .i64 (i : Int)) = a1 at l1 v1
  obtain ⟨r', hr2⟩ := ho.p2
  have e1 : a1.eval (.const (.int .i64 1)) = .int .i64 1 := rfl
  have hwr : IntKind.i64.wrap ((i : Int) + 1) = ((i + 1 : Nat) : Int) := by rw [IntWalk.i64_in _ (by omega)]; omega
  have hrun : (binOp .add 3 (.int .i64 (i : Int)) (.int .i64 1)).run Tryz.prog w = .ok (.int .i64 ((i + 1 : Nat) : Int)) w := by
    simp only [binOp, Op.intArith]
    simp [hwr]
  refine wpList_run ho.g2 (.int .i64 ((i + 1 : Nat) : Int)) (by unfold execOp; simp only [hr2, v1, e1]; generalize ((i + 1 : Nat) : Int) = z at hrun; simp [eqGuard, hrun]) ?_
  rw [ho.d2]
  have l2 := l1.put (d := d + 1) (.int .i64 ((i + 1 : Nat) : Int)) (by omega)
  have v2 : (a1.put (some (d + 1)) (.int .i64 ((i + 1 : Nat) : Int))).eval (.tmp (d + 1)) = .int .i64 ((i + 1 : Nat) : Int) := put_same _ (by rw [l1.size]; omega)
  generalize a1.put (some (d + 1)) (.int .i64 ((i + 1 : Nat) : Int)) = a2 at l2 v2
  refine wpList_mv ho.g3 (.tmp (d + 1)) (.inr ho.p3) ?_
  rw [ho.d3, v2]
  exact wpList_nil (h _ ((put_size _ _ _).trans l2.size) ((put_defers _ _ _).trans l2.defers) (fun s hs hn => (put_other _ hn).trans (l2.low s hs)) (put_same _ (by rw [l2.size]; omega)))
structure HeadP (S : TypeId) (j ct d : Nat) (o1 o2 o3 o4 o5 : Oper) : Prop where
  g1 : o1.guard = none
  g2 : o2.guard = none
  g3 : o3.guard = none
  g4 : o4.guard = none
  g5 : o5.guard = none
  p1 : o1.op = .move (.tmp ct)
  p2 : o2.op = .fieldAddr 37 (.tmp 1) j
  p3 : o3.op = .load S (.tmp (d + 1))
  p4 : o4.op = .call { callee := .builtin .len, args := #[.tmp (d + 2)], argTypes := #[S] }
  p5 : ∃ r, o5.op = .binOp .lss 3 (.tmp d) (.tmp (d + 3)) r
  d1 : o1.dst = some d
  d2 : o2.dst = some (d + 1)
  d3 : o3.dst = some (d + 2)
  d4 : o4.dst = some (d + 3)
  d5 : o5.dst = some (d + 4)
/-- The house that is spelt. -/
structure HW (W : World) (hb : Nat) (vs : List Value) (R : Nat → List (List Value)) (z : Int) : Prop where
  cs : Cs hb 37 vs W
  ha : HouseA W vs R z
  len : (encHouse R z).length ≤ 100000000
theorem HW.at {W w : World} {hb : Nat} {vs : List Value} {R : Nat → List (List Value)} {z : Int} (h : HW W hb vs R z) (hB : Below W.heap.size W w) {j : Nat} (hj : j < 14) : ∃ A c, w.cell? ⟨hb, j, none⟩ = some (.slice A (R j).length c) ∧ RowA w A (szJ j) (ksJ j) c (R j) := by
  obtain ⟨A, c, e, hr⟩ := h.ha.row j hj
  refine ⟨A, c, ?_, hr.below hB⟩
  rw [hB.cell (p := ⟨hb, j, none⟩) h.cs.lt, h.cs.cell, e]
theorem HW.few {W : World} {hb : Nat} {vs : List Value} {R : Nat → List (List Value)} {z : Int} (h : HW W hb vs R z) {j : Nat} (hj : j < 14) : (R j).length ≤ 100000000 := by
  obtain ⟨A, c, e, hr⟩ := h.ha.row j hj
  exact hr.few
theorem HW.num {W w : World} {hb : Nat} {vs : List Value} {R : Nat → List (List Value)} {z : Int} (h : HW W hb vs R z) (hB : Below W.heap.size W w) {j i : Nat} (hj : j < 14) (hi : i < (R j).length) :
    ∃ x ad c, (R j)[i]? = some x ∧ w.cell? ⟨hb, j, none⟩ = some (.slice (some ad) (R j).length c) ∧ (∀ m v, x[m]? = some v → w.cell? (ad.add (i * szJ j + m)) = some v) ∧ Fits (ksJ j) x ∧ ad.block < W.heap.size := by
  obtain ⟨A, c, e, hr⟩ := h.ha.row j hj
  obtain ⟨ad, rfl, hb', hc⟩ := hr.at_ (by omega)
  exact ⟨(R j)[i], ad, c, List.getElem?_eq_getElem hi, by rw [hB.cell (p := ⟨hb, j, none⟩) h.cs.lt, h.cs.cell, e], fun m v hv => by rw [hB.cell (p := ad.add (i * szJ j + m)) (by rw [block_of_add]; exact hb')]; exact hc i _ (List.getElem?_eq_getElem hi) m v hv, hr.fits _ (List.getElem_mem hi), hb'⟩
theorem head_pl {S : TypeId} {j ct d i hb : Nat} {o1 o2 o3 o4 o5 : Oper} {id : Nat} {W : World} {vs : List Value} {R : Nat → List (List Value)} {z : Int} {a : Act} {w : World} {Q : Exit → Act → World → Prop} (ho : HeadP S j ct d o1 o2 o3 o4 o5) (hj : j < 14) (hct : ct < 27) (hd : 27 ≤ d) (hz : d + 4 < 622)
    (hag : ∀ w, (isAgg S).run Tryz.prog w = .ok false w) (hu : Tryz.prog.underlying S = some (.slice (TJ' j))) (hfa : ∀ b w, (Instr.fieldAt 37 (.pointer (some ⟨b, 0, none⟩)) j).run Tryz.prog w = .ok (.pointer (some ⟨b, j, none⟩)) w)
    (hH : HW W hb vs R z) {v : Value} (hp : PF hb v a) (hB : Below W.heap.size W w) (hc : a.eval (.tmp ct) = .int .i64 (i : Int)) (h : ∀ a', Lo d a a' → a'.eval (.tmp (d + 4)) = .bool (decide (i < (R j).length)) → Q .normal a' w) : (Code.region id #[o1, o2, o3, o4, o5] false).wp Tryz.prog Q a w := by
  obtain ⟨A, c, hcell, hr⟩ := hH.at hB hj
  obtain ⟨n, hn⟩ : ∃ n, n = (R j).length := ⟨_, rfl⟩
  rw [← hn] at h hcell
  have hz' : a.tmps.size = 622 := hp.size
  refine wp_region_list ?_
  show wpList _ _ _ [o1, o2, o3, o4, o5] a w
  refine mv_c (F := fun l a => wpList _ _ _ l a w) (runs_list) ho.g1 ho.p1 ho.d1 (by omega) hc fun a1 l1 v1 => ?_
  refine out (F := fun l a => wpList _ _ _ l a w) (runs_list) ho.g2 ho.d2 (by rw [l1.size]; omega) (.pointer (some ⟨hb, j, none⟩)) (fun w _ => by unfold execOp; simp only [ho.p2, (l1.low 1 (by omega)).trans hp.s1, Sem.run_bind, hfa, Result.andThen_ok, Sem.run_pure]) fun a2 l2 v2 => ?_
  refine ld_c (F := fun l a => wpList _ _ _ l a w) (runs_list) ho.g3 ho.p3 ho.d3 (by rw [l2.size, l1.size]; omega) v2 hag (at_eq hcell) fun a3 l3 v3 => ?_
  refine out (F := fun l a => wpList _ _ _ l a w) (runs_list) ho.g4 ho.d4 (by rw [l3.size, l2.size, l1.size]; omega) (.int .i64 (n : Int)) ?_ fun a4 l4 v4 => ?_
  · have q3 : a3.tmps[d + 2]?.getD undef = .slice A n c := by rw [← v3]; simp [Act.eval, Array.getD_eq_getD_getElem?]
    have hu' : Tryz.prog.underlying S = some (.slice (Tryz.prog.elem S)) := by
      have : Tryz.prog.elem S = TJ' j := by simp [Program.elem, hu]
      rw [this]; exact hu
    intro w _
    unfold execOp
    simp [go_sem, ho.p4, q3, run_len_slice (h := hu')]
  have v1' : a4.eval (.tmp d) = .int .i64 (i : Int) := (l4.low d (by omega)).trans ((l3.low d (by omega)).trans ((l2.low d (by omega)).trans v1))
  obtain ⟨r5, hp5⟩ := ho.p5
  have hdd : decide ((i : Int) < (n : Int)) = decide (i < n) := by rw [decide_eq_decide]; omega
  refine out (F := fun l a => wpList _ _ _ l a w) (runs_list) ho.g5 ho.d5 (by rw [l4.size, l3.size, l2.size, l1.size]; omega) (.bool (decide (i < n))) (fun w _ => by unfold execOp; simp only [hp5, v1', v4]; simp [go_sem, hdd]) fun a5 l5 v5 => ?_
  have hl : Lo d a a5 := ⟨l5.size.trans (l4.size.trans (l3.size.trans (l2.size.trans l1.size))), l5.defers.trans (l4.defers.trans (l3.defers.trans (l2.defers.trans l1.defers))), fun s hs => (l5.low s (by omega)).trans ((l4.low s (by omega)).trans ((l3.low s (by omega)).trans ((l2.low s (by omega)).trans (l1.low s hs))))⟩
  exact wpList_nil (h a5 hl v5)
theorem zero_ofP {T : TypeId} {z : Value} {s b : Nat} (h : (Tryz.prog.info? T).map (fun i => (i.zero, i.size, i.bytes)) = some (some z, s, b)) (w : World) : (zeroValue T).run Tryz.prog w = .ok z w := by
  obtain ⟨i, hi, hz, _, _⟩ := infoParts h
  simp [zeroValue, typeInfo, hi, hz]
theorem size_ofP {T : TypeId} {z : Value} {s b : Nat} (h : (Tryz.prog.info? T).map (fun i => (i.zero, i.size, i.bytes)) = some (some z, s, b)) : (Tryz.prog.info? T).map (·.size) = some s := by
  obtain ⟨i, hi, hz, hs, _⟩ := infoParts h
  simp [hi, hs]
structure CpOps (T : TypeId) (e d : Nat) (o5 o6 o7 : Oper) : Prop where
  g5 : o5.guard = none
  g6 : o6.guard = none
  g7 : o7.guard = none
  p5 : o5.op = .load T (.tmp d)
  p6 : o6.op = .alloc T
  p7 : o7.op = .store T (.tmp e) (.tmp (d + 1))
  d5 : o5.dst = some (d + 1)
  d6 : o6.dst = some e
  d7 : o7.dst = none
theorem cp_list {T : TypeId} {e d : Nat} {o5 o6 o7 : Oper} {ops : Array Oper} {ks : List K} {x : List Value} {ad : Addr} {dt : TypeDesc} {a : Act} {w : World} {Q : Exit → Act → World → Prop} (ho : CpOps T e d o5 o6 o7) (he : e < d) (hz : d + 1 < a.tmps.size)
    (hu : Tryz.prog.underlying T = some dt) (hdr : dt.isRow = true) (hsz : (Tryz.prog.info? T).map (·.size) = some ks.length) (hzero : ∀ w, (zeroValue T).run Tryz.prog w = .ok (.agg (ks.map zeroV).toArray) w) (hx : Fits ks x) (hs : a.eval (.tmp d) = .pointer (some ad)) (hc : ∀ m v, x[m]? = some v → w.cell? (ad.add m) = some v)
    (h : ∀ a' w', a'.tmps.size = a.tmps.size → a'.defers = a.defers → (∀ s : Nat, s < d → s ≠ e → a'.eval (.tmp s) = a.eval (.tmp s)) → a'.eval (.tmp e) = .pointer (some ⟨w.heap.size, 0, none⟩) → Cs w.heap.size T x w' → Below w.heap.size w w' → Q .normal a' w') : wpList Tryz.prog ops Q [o5, o6, o7] a w := by
  have hxl : x.length = ks.length := fits_len hx
  refine wpList_load_at ho.g5 T (.tmp d) ho.p5 ad hs x dt hc hu hdr (by rw [hxl]; exact hsz) ?_
  rw [ho.d5]
  have l1 := (Lo.refl (d + 1) a).put (d := d + 1) (.agg x.toArray) (Nat.le_refl _)
  have v1 : (a.put (some (d + 1)) (.agg x.toArray)).eval (.tmp (d + 1)) = .agg x.toArray := put_same _ hz
  generalize a.put (some (d + 1)) (.agg x.toArray) = a1 at l1 v1
  have hrun : (execOp a1.eval o6).run Tryz.prog w = .ok (.value (.pointer (some ⟨w.heap.size, 0, none⟩))) (w.alloc (.cells (ks.map zeroV).toArray T)) := by
    unfold execOp
    simp [ho.p6, Instr.alloc, Sem.run_bind, hzero w, newVar, newRow, Value.cells, go_sem]
  refine Great.wpList_allocTo ho.g6 (some e) ho.d6 (.pointer (some ⟨w.heap.size, 0, none⟩)) _ hrun ?_
  have v2 : (a1.put (some e) (.pointer (some ⟨w.heap.size, 0, none⟩))).eval (.tmp e) = .pointer (some ⟨w.heap.size, 0, none⟩) := put_same _ (by rw [l1.size]; omega)
  have v2b : (a1.put (some e) (.pointer (some ⟨w.heap.size, 0, none⟩))).eval (.tmp (d + 1)) = .agg x.toArray := (put_other _ (by omega)).trans v1
  have k2 : ∀ s : Nat, s < d → s ≠ e → (a1.put (some e) (.pointer (some ⟨w.heap.size, 0, none⟩))).eval (.tmp s) = a.eval (.tmp s) := fun s hs' hn => (put_other _ hn).trans (l1.low s (by omega))
  have z2 := (put_size a1 (some e) (.pointer (some ⟨w.heap.size, 0, none⟩))).trans l1.size
  have f2 := (put_defers a1 (some e) (.pointer (some ⟨w.heap.size, 0, none⟩))).trans l1.defers
  generalize a1.put (some e) (.pointer (some ⟨w.heap.size, 0, none⟩)) = a2 at v2 v2b k2 z2 f2
  have hcs : Cs w.heap.size T (ks.map zeroV) (w.alloc (.cells (ks.map zeroV).toArray T)) := cs_alloc _ _ _ _ rfl
  refine wpList_storeV ho.g7 T (.tmp e) (.tmp (d + 1)) ho.p7 w.heap.size 0 (.agg x.toArray) x v2 v2b (by simp [Value.cells]) ?_ (by rw [hxl]; exact hsz) (fits_one hx) ?_
  · intro j hj
    rw [hcs.cell, hcs.frozen]
    refine ⟨?_, rfl⟩
    have : j < ks.length := by omega
    simp [this]
  rw [ho.d7, put_none]
  refine wpList_nil (h a2 _ z2 f2 k2 v2 ?_ (below_setCells (alloc_below w _) (Nat.le_refl _) _ _))
  have := Cs.setCells x [] (ks.map zeroV) [] _ (by simp [hxl]) (by simpa using hcs)
  simpa using this
theorem cp_region {S T : TypeId} {j sz ct d e hb n c i : Nat} {v : Value} {ad : Addr} {o1 o2 o3 o4 o5 o6 o7 : Oper} {id : Nat} {ks : List K} {x : List Value} {dt : TypeDesc} {a : Act} {w : World} {Q : Exit → Act → World → Prop} (ho : TtOps S j ct d o1 o2 o3 o4) (hcp : CpOps T e (d + 3) o5 o6 o7) (hT : LP S T j sz)
    (hd : 27 ≤ d) (hz : d + 4 < 622) (he : e < 27) (he4 : 4 ≤ e) (hct : ct < 27) (hP : PF hb v a) (hc : a.eval (.tmp ct) = .int .i64 (i : Int)) (hi : i < n) (hl : w.cell? ⟨hb, j, none⟩ = some (.slice (some ad) n c))
    (hu : Tryz.prog.underlying T = some dt) (hdr : dt.isRow = true) (hsz : (Tryz.prog.info? T).map (·.size) = some ks.length) (hzero : ∀ w, (zeroValue T).run Tryz.prog w = .ok (.agg (ks.map zeroV).toArray) w) (hx : Fits ks x) (hrow : ∀ m v, x[m]? = some v → w.cell? (ad.add (i * sz + m)) = some v)
    (h : ∀ a' w', PF hb v a' → (∀ s : Nat, s < 27 → s ≠ e → a'.eval (.tmp s) = a.eval (.tmp s)) → a'.eval (.tmp e) = .pointer (some ⟨w.heap.size, 0, none⟩) → Cs w.heap.size T x w' → Below w.heap.size w w' → Q .normal a' w') : (Code.region id #[o1, o2, o3, o4, o5, o6, o7] false).wp Tryz.prog Q a w := by
  refine wp_region_list ?_
  show wpList _ _ _ [o1, o2, o3, o4, o5, o6, o7] a w
  refine tt_c (F := fun l a => wpList _ _ _ l a w) (runs_list) ho hT hd (by omega) hct hP hc hi (at_eq hl) fun a1 l1 v1 => ?_
  refine cp_list hcp (by omega) (by rw [l1.size, hP.size]; omega) hu hdr hsz hzero hx v1 (fun m u hu' => by rw [add_of_add]; exact hrow m u hu') fun a2 w2 z2 f2 k2 e2 hcs hB => ?_
  have hk : ∀ s : Nat, s < 27 → s ≠ e → a2.eval (.tmp s) = a.eval (.tmp s) := fun s hs hn => (k2 s (by omega) hn).trans (l1.low s (by omega))
  exact h a2 w2 ⟨z2.trans (l1.size.trans hP.size), f2.trans (l1.defers.trans hP.defers), (hk 1 (by omega) (by omega)).trans hP.s1, (hk 3 (by omega) (by omega)).trans hP.s3⟩ hk e2 hcs hB
structure HeadK (ct d K : Nat) (o1 o2 : Oper) : Prop where
  g1 : o1.guard = none
  g2 : o2.guard = none
  p1 : o1.op = .move (.tmp ct)
  p2 : ∃ r, o2.op = .binOp .lss 3 (.tmp d) (.const (.int .i64 (K : Int))) r
  d1 : o1.dst = some d
  d2 : o2.dst = some (d + 1)
theorem head_k {ct d K i : Nat} {o1 o2 : Oper} {id : Nat} {a : Act} {w : World} {Q : Exit → Act → World → Prop} (ho : HeadK ct d K o1 o2) (hz : d + 1 < a.tmps.size) (hc : a.eval (.tmp ct) = .int .i64 (i : Int)) (h : ∀ a', Lo d a a' → a'.eval (.tmp (d + 1)) = .bool (decide (i < K)) → Q .normal a' w) : (Code.region id #[o1, o2] false).wp Tryz.prog Q a w := by
  refine wp_region_list ?_
  show wpList _ _ _ [o1, o2] a w
  refine mv_c (F := fun l a => wpList _ _ _ l a w) (runs_list) ho.g1 ho.p1 ho.d1 (by omega) hc fun a1 l1 v1 => ?_
  obtain ⟨r, hp⟩ := ho.p2
  have hdd : decide ((i : Int) < (K : Int)) = decide (i < K) := by rw [decide_eq_decide]; omega
  obtain ⟨q, hq⟩ : ∃ q : Int, q = (K : Int) := ⟨_, rfl⟩
  rw [← hq] at hp hdd
  have e0 : a1.eval (.const (.int .i64 q)) = .int .i64 q := rfl
  refine out (F := fun l a => wpList _ _ _ l a w) (runs_list) ho.g2 ho.d2 (by rw [l1.size]; omega) (.bool (decide (i < K))) (by unfold execOp; simp only [hp, v1, e0]; simp [go_sem, hdd]) fun a2 l2 v2 => ?_
  exact wpList_nil (h a2 ⟨l2.size.trans l1.size, l2.defers.trans l1.defers, fun s hs => (l2.low s (by omega)).trans (l1.low s hs)⟩ v2)
structure LnOps (S : TypeId) (j d : Nat) (o1 o2 o3 : Oper) : Prop where
  g1 : o1.guard = none
  g2 : o2.guard = none
  g3 : o3.guard = none
  p1 : o1.op = .fieldAddr 37 (.tmp 1) j
  p2 : o2.op = .load S (.tmp d)
  p3 : o3.op = .call { callee := .builtin .len, args := #[.tmp (d + 1)], argTypes := #[S] }
  d1 : o1.dst = some d
  d2 : o2.dst = some (d + 1)
  d3 : o3.dst = some (d + 2)
theorem len_at {S E : TypeId} {A : Option Addr} {n c : Nat} (hu : Tryz.prog.underlying S = some (.slice E)) (ty : TypeId) (w : World) : (Builtin.len_ #[S] ty #[.slice A n c]).run Tryz.prog w = .ok (.int .i64 (n : Int)) w := by
  have hu' : Tryz.prog.underlying S = some (.slice (Tryz.prog.elem S)) := by
    have : Tryz.prog.elem S = E := by simp [Program.elem, hu]
    rw [this]; exact hu
  have := run_len_slice (P := Tryz.prog) (w := w) (t := S) (ty := ty) (base := A) (n := n) (c := c) (h := hu')
  simpa [goInt] using this
section
variable {Sw : World → Prop} {F : List Oper → Act → Prop} {rest : List Oper} {a : Act} {d : Nat}
theorem ln_c (hF : Runs Sw F) {S T E : TypeId} {j sz hb n c : Nat} {A : Option Addr} {v : Value} {o1 o2 o3 : Oper} (ho : LnOps S j d o1 o2 o3) (hT : LP S T j sz) (hu : Tryz.prog.underlying S = some (.slice E)) (hd : 27 ≤ d) (hz : d + 2 < 622) (hP : PF hb v a)
    (hl : ∀ w, Sw w → w.cell? ⟨hb, j, none⟩ = some (.slice A n c)) (h : ∀ a', Lo d a a' → a'.eval (.tmp (d + 2)) = .int .i64 (n : Int) → F rest a') : F (o1 :: o2 :: o3 :: rest) a := by
  refine out hF ho.g1 ho.d1 (by rw [hP.size]; omega) (.pointer (some ⟨hb, j, none⟩)) (fun w _ => by unfold execOp; simp only [ho.p1, hP.s1, Sem.run_bind, hT.fa, Result.andThen_ok, Sem.run_pure]) fun a1 l1 v1 => ?_
  refine ld_c hF ho.g2 ho.p2 ho.d2 (by rw [l1.size, hP.size]; omega) v1 hT.ag hl fun a2 l2 v2 => ?_
  have q2 : a2.tmps[d + 1]?.getD undef = .slice A n c := by rw [← v2]; simp [Act.eval, Array.getD_eq_getD_getElem?]
  refine out hF ho.g3 ho.d3 (by rw [l2.size, l1.size, hP.size]; omega) (.int .i64 (n : Int)) (fun w _ => ?_) fun a3 l3 v3 => ?_
  · unfold execOp
    simp [go_sem, ho.p3, q2, len_at hu]
  exact h a3 ⟨l3.size.trans (l2.size.trans l1.size), l3.defers.trans (l2.defers.trans l1.defers), fun s hs => (l3.low s (by omega)).trans ((l2.low s (by omega)).trans (l1.low s hs))⟩ v3
end
/-! ### The bytes, list by list -/
def bsJ (R : Nat → List (List Value)) (j i : Nat) : List UInt8 := encTo R j ++ (digits (R j).length ++ ((R j).take i).flatMap encs)
theorem bsJ_zero (R : Nat → List (List Value)) (j : Nat) : bsJ R j 0 = encTo R j ++ digits (R j).length := by simp [bsJ]
theorem bsJ_succ {R : Nat → List (List Value)} {j i : Nat} {x : List Value} (h : (R j)[i]? = some x) : bsJ R j (i + 1) = bsJ R j i ++ encs x := by
  unfold bsJ
  rw [List.take_add_one, h]
  simp
theorem bsJ_done (R : Nat → List (List Value)) (j : Nat) : bsJ R j (R j).length = encTo R (j + 1) := by
  unfold bsJ
  rw [List.take_length]
  rfl
theorem encTo_mono (R : Nat → List (List Value)) (j : Nat) : ∀ k, (encTo R j).length ≤ (encTo R (j + k)).length
  | 0 => Nat.le_refl _
  | k + 1 => by
    have := encTo_mono R j k
    rw [show j + (k + 1) = (j + k) + 1 by omega]
    simp only [encTo, List.length_append]
    omega
theorem encTo_house (R : Nat → List (List Value)) (z : Int) {j : Nat} (hj : j ≤ 14) : (encTo R j).length ≤ (encHouse R z).length := by
  have := encTo_mono R j (14 - j)
  rw [show j + (14 - j) = 14 by omega] at this
  rw [encHouse_eq, List.length_append]
  omega
theorem bsJ_le (R : Nat → List (List Value)) (z : Int) {j : Nat} (hj : j < 14) (i : Nat) : (bsJ R j i).length ≤ (encHouse R z).length := by
  have h1 := encTo_house R z (j := j + 1) (by omega)
  have h2 : (((R j).take i).flatMap encs).length ≤ ((R j).flatMap encs).length := by
    have e : (R j).flatMap encs = ((R j).take i).flatMap encs ++ ((R j).drop i).flatMap encs := by rw [← List.flatMap_append, List.take_append_drop]
    rw [e, List.length_append]; omega
  simp only [encTo, encRows, List.length_append] at h1
  unfold bsJ
  simp only [List.length_append]
  omega
theorem HW.xl {W : World} {hb : Nat} {vs : List Value} {R : Nat → List (List Value)} {z : Int} (h : HW W hb vs R z) {j i : Nat} {x : List Value} (hj : j < 14) (hx : (R j)[i]? = some x) : (encs x).length ≤ 100000000 := by
  have h1 := bsJ_le R z hj (i + 1)
  rw [bsJ_succ hx, List.length_append] at h1
  have := h.len
  omega
theorem sz_of {x : List Value} (h : (encs x).length ≤ 100000000) : ∀ v ∈ x, Sz v := by
  intro v hv
  have h2 : (encV v).length ≤ (encs x).length := by
    obtain ⟨a, b, rfl⟩ := List.append_of_mem hv
    unfold encs
    simp only [List.flatMap_append, List.flatMap_cons, List.length_append]
    omega
  cases v with
  | string s =>
    show s.size ≤ 100000000
    have h3 : s.size ≤ (encV (.string s)).length := by
      show s.size ≤ (textB s).length
      unfold textB
      simp
    omega
  | _ => trivial
def LB (W : World) (hb : Nat) (bs : List UInt8) (a : Act) (w : World) : Prop := ∃ v, PF hb v a ∧ OB W bs v w
theorem LB.kept {W w : World} {hb : Nat} {bs : List UInt8} {a a' : Act} (h : LB W hb bs a w) (hz : a'.tmps.size = a.tmps.size) (hd : a'.defers = a.defers) (h1 : a'.eval (.tmp 1) = a.eval (.tmp 1)) (h3 : a'.eval (.tmp 3) = a.eval (.tmp 3)) : LB W hb bs a' w := by
  obtain ⟨v, q, g⟩ := h
  exact ⟨v, ⟨hz.trans q.size, hd.trans q.defers, h1.trans q.s1, h3.trans q.s3⟩, g⟩
theorem LB.lo {W w : World} {hb d : Nat} {bs : List UInt8} {a a' : Act} (h : LB W hb bs a w) (l : Lo d a a') (hd : 4 ≤ d) : LB W hb bs a' w := h.kept l.size l.defers (l.low 1 (by omega)) (l.low 3 (by omega))
theorem LB.size {W w : World} {hb : Nat} {bs : List UInt8} {a : Act} (h : LB W hb bs a w) : a.tmps.size = 622 := by
  obtain ⟨v, q, _⟩ := h
  exact q.size
/-- A list's loop. -/
theorem bl_list {S T : TypeId} {j ct hd di sz hb : Nat} {p0 o1 o2 o3 o4 o5 q1 q2 q3 : Oper} {id0 id1 id2 b b1 : Nat} {body : Code} {W : World} {vs : List Value} {R : Nat → List (List Value)} {z : Int} (hj : j < 14) (g0 : p0.guard = none) (e0 : p0.op = .assign (.const (.int .i64 0))) (d0 : p0.dst = some ct) (hh : HeadP S j ct hd o1 o2 o3 o4 o5) (hi : IncOps ct di q1 q2 q3)
    (hct : ct < 27) (hct4 : 4 ≤ ct) (hhd : 27 ≤ hd) (hhz : hd + 4 < 622) (hdi : 27 ≤ di) (hdz : di + 1 < 622) (hT : LP S T j sz) (hu : Tryz.prog.underlying S = some (.slice (TJ' j))) (hH : HW W hb vs R z)
    (hbody : ∀ a w i v Q, i < (R j).length → PF hb v a → OB W (bsJ R j i) v w → a.eval (.tmp ct) = .int .i64 (i : Int) → (∀ a' w' v', PF hb v' a' → OB W (bsJ R j (i + 1)) v' w' → a'.eval (.tmp ct) = .int .i64 (i : Int) → Q .normal a' w') → body.wp Tryz.prog Q a w)
    {a : Act} {w : World} {Q : Exit → Act → World → Prop} (h0 : LB W hb (encTo R j ++ digits (R j).length) a w) (h : ∀ a' w', LB W hb (encTo R (j + 1)) a' w' → Q .normal a' w') :
    (Code.seq (Code.region id0 #[p0] false) (Code.block b (Code.loop (Code.seq (Code.seq (Code.region id1 #[o1, o2, o3, o4, o5] false) (Code.cond (.tmp (hd + 4)) Code.skip (Code.exit b))) (Code.seq (Code.block b1 body) (Code.region id2 #[q1, q2, q3] false)))))).wp Tryz.prog Q a w := by
  have hf := hH.few hj
  rw [← bsJ_zero] at h0
  refine up_loop (ct := ct) (hs := hd + 4) (n := (R j).length) (fun i a w => LB W hb (bsJ R j i) a w) (fun i a w => LB W hb (bsJ R j (i + 1)) a w) (S0 := fun a w => LB W hb (bsJ R j 0) a w) ?_ ?_ ?_ ?_ h0 fun a' w' s => h a' w' (by rw [bsJ_done] at s; exact s)
  · intro a w Q s hQ
    exact start_pl g0 e0 d0 (by rw [s.size]; omega) fun a' l _ v => hQ a' (s.lo l hct4) v
  · intro a w i Q hin s hc hQ
    obtain ⟨v, s1, s2⟩ := s
    exact head_pl hh hj hct hhd hhz hT.ag hu hT.fa hH s1 s2.below hc fun a' l v' => hQ a' (LB.lo ⟨v, s1, s2⟩ l (by omega)) ((l.low ct (by omega)).trans hc) v'
  · intro a w i Q hlt s hc hQ
    obtain ⟨v, s1, s2⟩ := s
    exact hbody a w i v Q hlt s1 s2 hc fun a' w' v' p1 p2 p3 => hQ a' w' ⟨v', p1, p2⟩ p3
  · intro a w i Q hlt s hc hQ
    exact inc_pl hi (by omega) (by rw [s.size]; omega) hc (by omega) fun a' z1 f1 k1 c1 => hQ a' (s.kept z1 f1 (k1 1 (by omega) (by omega)) (k1 3 (by omega) (by omega))) c1
/-- A list's count. -/
structure CtOps (S : TypeId) (j d : Nat) (o1 o2 o3 o4 o5 t1 t2 : Oper) : Prop where
  g1 : o1.guard = none
  p1 : o1.op = .move (.tmp 3)
  d1 : o1.dst = some d
  ln : LnOps S j (d + 1) o2 o3 o4
  g5 : o5.guard = none
  p5 : ∃ tys, o5.op = .call { callee := .value (.func 32), args := #[.tmp (d + 3)], argTypes := tys }
  d5 : o5.dst = some (d + 4)
  ap : ApOps d (d + 4) (d + 5) t1 t2
theorem cf_countB (u : Value) (w : World) : (callFunc 32 #[u]).run Tryz.prog w = .ok (.enter 32 #[u]) w := by simp [go_sem]
theorem ct_region {S T : TypeId} {j d sz hb id : Nat} {o1 o2 o3 o4 o5 t1 t2 : Oper} {W : World} {vs : List Value} {R : Nat → List (List Value)} {z : Int} {a : Act} {w : World} {Q : Exit → Act → World → Prop} (ho : CtOps S j d o1 o2 o3 o4 o5 t1 t2) (hj : j < 14) (hd : 27 ≤ d) (hz : d + 5 < 622) (hT : LP S T j sz) (hu : Tryz.prog.underlying S = some (.slice (TJ' j))) (hH : HW W hb vs R z)
    (h0 : LB W hb (encTo R j) a w) (h : ∀ a' w', LB W hb (encTo R j ++ digits (R j).length) a' w' → Q .normal a' w') : (Code.region id #[o1, o2, o3, o4, o5, t1, t2] false).wp Tryz.prog Q a w := by
  obtain ⟨v, hp, hO⟩ := h0
  obtain ⟨A, c, hcell, hr⟩ := hH.at hO.below hj
  have hf := hH.few hj
  have hlt : hb < w.heap.size := Nat.lt_of_lt_of_le hH.cs.lt hO.below.size
  have hle := encTo_house R z (j := j + 1) (by omega)
  have hln := hH.len
  have hdl : (digits (R j).length).length ≤ (encTo R (j + 1)).length := by simp only [encTo, encRows, List.length_append]; omega
  have hle0 := encTo_house R z (j := j) (by omega)
  obtain ⟨n, hn⟩ : ∃ n, n = (R j).length := ⟨_, rfl⟩
  rw [← hn] at hcell h hf hdl
  refine wp_region_list ?_
  refine sure_list (S := Below w.heap.size w) [o1, o2, o3, o4, o5] a w (Below.refl _ _) ?_
  refine mv_c (F := fun l a => wpHs (Below w.heap.size w) _ l a) runs_s ho.g1 ho.p1 ho.d1 (by rw [hp.size]; omega) hp.s3 fun a1 l1 v1 => ?_
  have hp1 := hp.lo l1 (by omega)
  refine ln_c (F := fun l a => wpHs (Below w.heap.size w) _ l a) runs_s ho.ln hT hu (by omega) (by omega) hp1 (fun w1 hw => by rw [hw.cell (p := ⟨hb, j, none⟩) hlt]; exact hcell) fun a2 l2 v2 => ?_
  have hp2 := hp1.lo l2 (by omega)
  obtain ⟨tys, p5⟩ := ho.p5
  refine call_s (u := w) ho.g5 p5 ho.d5 (by rw [hp2.size]; omega) v2 (cf_countB _) (fun w1 => rcount_any n (by omega) w1) fun a3 l3 v3 => ?_
  have hp3 := hp2.lo l3 (by omega)
  intro w1 hw1
  refine ap_raw ho.ap hp3 ((l3.low d (by omega)).trans ((l2.low d (by omega)).trans v1)) v3 (hO.later hw1) (by omega) (by omega) (by omega) fun a' w' v' q1 _ q2 _ => ?_
  exact h a' w' ⟨v', q1, q2⟩
end Go.Proofs.YtgdoodeibcfcjaaGreat.Wire
