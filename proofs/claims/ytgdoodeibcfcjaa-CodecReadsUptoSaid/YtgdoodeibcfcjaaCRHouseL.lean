/- The reference's House: the append of a thing, its variable, a list's loop. -/
import Derived.Test.YtgdoodeibcfcjaaCRHouse
import Derived.Test.YtgdoodeibcfcjaaCList
import Derived.Great.Walk
set_option linter.unusedVariables false
set_option linter.unusedSimpArgs false
namespace Go.Proofs.Ytgdoodeibcfcjaa.Wire
open Go.RowKit Go.Proofs.Ytgdoodeibcfcjaa.NumsPure Go.Proofs.Ytgdoodeibcfcjaa.CPure Go.Proofs.Ytgdoodeibcfcjaa.Own
/-- What is known of a list of the house: its types, its sizes. -/
structure LT (T ST TH : TypeId) (j k by_ : Nat) (ks : List K) : Prop where
  st : Try.prog.underlying ST = some (.slice T)
  row : ∃ d, Try.prog.underlying T = some d ∧ d.isRow = true
  info : (Try.prog.info? T).map (fun i => (i.zero, i.size, i.bytes)) = some (some (.agg (ks.map zeroV).toArray), k, by_)
  len : ks.length = k
  k0 : 0 < k
  k1 : k ≤ 1000
  by1 : by_ ≤ 1000000
  fa : ∀ b w, (Instr.fieldAt TH (.pointer (some ⟨b, 0, none⟩)) j).run Try.prog w = .ok (.pointer (some ⟨b, j, none⟩)) w
  agg : ∀ w, (isAgg ST).run Try.prog w = .ok false w
  one : (Try.prog.info? ST).map (·.size) = some 1
  zero : ∀ w, (zeroValue T).run Try.prog w = .ok (.agg (ks.map zeroV).toArray) w
  t1 : T ≠ 67
  t2 : T ≠ TH
structure AppOps (T ST TH : TypeId) (e d j : Nat) (o1 o2 o3 o4 o5 o6 o7 : Oper) : Prop where
  g1 : o1.guard = none
  g2 : o2.guard = none
  g3 : o3.guard = none
  g4 : o4.guard = none
  g5 : o5.guard = none
  g6 : o6.guard = none
  g7 : o7.guard = none
  p1 : o1.op = .fieldAddr TH (.tmp 5) j
  p2 : o2.op = .load ST (.tmp d)
  p3 : o3.op = .load T (.tmp e)
  p4 : o4.op = .buildSlice ST 1 #[(0, .tmp (d + 2))]
  p5 : o5.op = .call { callee := .builtin .append, args := #[.tmp (d + 1), .tmp (d + 3)], argTypes := #[ST, ST] }
  p6 : o6.op = .fieldAddr TH (.tmp 5) j
  p7 : o7.op = .store ST (.tmp (d + 5)) (.tmp (d + 4))
  d1 : o1.dst = some d
  d2 : o2.dst = some (d + 1)
  d3 : o3.dst = some (d + 2)
  d4 : o4.dst = some (d + 3)
  d5 : o5.dst = some (d + 4)
  d6 : o6.dst = some (d + 5)
  d7 : o7.dst = none
set_option maxHeartbeats 1000000 in
set_option maxRecDepth 10000 in
theorem append_step {T ST TH : TypeId} {e d j k by_ : Nat} {o1 o2 o3 o4 o5 o6 o7 : Oper} {id N c rk rb hb m : Nat} {ks : List K} {hcs zs : List Value} {all : Rd × List (List Value)} {st : Rd} {rows : List (List Value)} {v : Value} {u wr : World} {a : Act} {w : World} {Q : Exit → Act → World → Prop}
    (ho : AppOps T ST TH e d j o1 o2 o3 o4 o5 o6 o7) (hT : LT T ST TH j k by_ ks) (hd : 35 ≤ d) (he : e < 35) (hc : c < 35) (hN : d + 5 < N) (hne : hb ≠ rb) (hkn : rk ≠ hb) (hrkn : rk ≠ rb) (hjl : j < hcs.length)
    (hR : RLp rb hb rk j TH T k hcs zs ks all (m + 1) st rows v u wr) (hbad : st.bad = false) (hB : BS N e c rk rb hb wr.heap.size (m + 1) T st ks [] wr a w)
    (h : ∀ a' w' st' rows' v', Sl N e c rk rb hb wr.heap.size (m + 1) a' → RLp rb hb rk j TH T k hcs zs ks all m st' rows' v' u w' → Q .normal a' w') : (Code.region id #[o1, o2, o3, o4, o5, o6, o7] false).wp Try.prog Q a w := by
  obtain ⟨i0, hI0, hz0, hz1, hz2⟩ := infoParts hT.info
  obtain ⟨p, hp⟩ : ∃ p, p = rds ks st (ks.map zeroV) := ⟨_, rfl⟩
  have hx0 := rds_len ks st
  have hfit := fits_rds ks st _ (fits_zero ks)
  have hcx := hB.cs
  have hrw := hB.rw_
  rw [← hp] at hx0 hfit hcx hrw
  obtain ⟨st', x⟩ := p
  simp only [List.map_nil, List.append_nil] at hcx hx0 hfit hrw
  have hxl : x.length = k := hx0.trans hT.len
  have hlr : ∀ b, b < wr.heap.size → b ≠ rb → w.heap[b]? = wr.heap[b]? := fun b hb' hn => hB.fr.block b hb' (by rintro (q | q) <;> omega)
  have hch : Cs hb TH (hcs.set j v) w := hR.cs.keep (hlr hb hR.cs.lt hne)
  have hck : Cs rk TH zs w := hR.rk.keep (hlr rk hR.rk.lt hrkn)
  have hrow : w.ownsRow u.heap.size T k v rows.length rows.flatten := own_same hR.own fun g hg => hlr g (hR.own.lt g hg).2 (fun q => rw_ne hR.own hR.rw_ hT.t1 (by rw [hg, q]))
  have hfr : Fr (fun i => i = rb ∨ i = hb) u w := ⟨hB.fr.os.trans hR.fr.os, hB.fr.tape.trans hR.fr.tape, hB.fr.output.trans hR.fr.output, Nat.le_trans hR.fr.size hB.fr.size, fun i hi hn => (hlr i (Nat.lt_of_lt_of_le hi hR.fr.size) (fun q => hn (.inl q))).trans (hR.fr.block i hi hn)⟩
  have hxb : wr.heap.size < w.heap.size := hcx.lt
  refine wp_region_list ?_
  show wpList _ _ _ [o1, o2, o3, o4, o5, o6, o7] a w
  -- the field's address
  refine wpList_run ho.g1 (.pointer (some ⟨hb, j, none⟩)) (by unfold execOp; simp only [ho.p1, hB.sl.s5, Sem.run_bind, hT.fa hb w, Result.andThen_ok, Sem.run_pure]) ?_
  rw [ho.d1]
  have s1 := hB.sl.put (d := d) (.pointer (some ⟨hb, j, none⟩)) (by omega) (by omega) (by omega) (by omega) (by omega)
  have v1 : (a.put (some d) (.pointer (some ⟨hb, j, none⟩))).eval (.tmp d) = .pointer (some ⟨hb, j, none⟩) := put_same _ (by rw [hB.sl.size]; omega)
  generalize a.put (some d) (.pointer (some ⟨hb, j, none⟩)) = a1 at s1 v1
  -- the list
  have hcell : w.cell? ⟨hb, j, none⟩ = some v := by rw [hch.cell, List.getElem?_set_self hjl]
  refine wpList_run ho.g2 v (by unfold execOp; simp [ho.p2, v1, Instr.loadAt, Instr.sureAddr, loadVar, Sem.run_bind, hT.agg w, run_load, hcell]) ?_
  rw [ho.d2]
  have s2 := s1.put (d := d + 1) v (by omega) (by omega) (by omega) (by omega) (by omega)
  have v2 : (a1.put (some (d + 1)) v).eval (.tmp (d + 1)) = v := put_same _ (by rw [s1.size]; omega)
  generalize a1.put (some (d + 1)) v = a2 at s2 v2
  -- the thing
  obtain ⟨dT, hdT, hdr⟩ := hT.row
  refine wpList_load_at ho.g3 T (.tmp e) ho.p3 ⟨wr.heap.size, 0, none⟩ s2.se x dT (fun q v hv => ?_) hdT hdr (by rw [hI0]; simp [hz1, hxl]) ?_
  · have ea : (⟨wr.heap.size, 0, none⟩ : Addr).add q = ⟨wr.heap.size, q, none⟩ := by unfold Addr.add; split <;> simp_all
    rw [ea, hcx.cell]; exact hv
  rw [ho.d3]
  have s3 := s2.put (d := d + 2) (.agg x.toArray) (by omega) (by omega) (by omega) (by omega) (by omega)
  have v3 : (a2.put (some (d + 2)) (.agg x.toArray)).eval (.tmp (d + 2)) = .agg x.toArray := put_same _ (by rw [s2.size]; omega)
  have v3b : (a2.put (some (d + 2)) (.agg x.toArray)).eval (.tmp (d + 1)) = v := (put_other _ (by omega)).trans v2
  generalize a2.put (some (d + 2)) (.agg x.toArray) = a3 at s3 v3 v3b
  -- a row of one
  refine wpList_build_one ho.g4 ST T (.tmp (d + 2)) ho.p4 x v3 i0 _ k hT.st hI0 hz0 hz1 hxl hT.k0 hT.k1 ?_
  rw [ho.d4]
  have s4 := s3.put (d := d + 3) (.slice (some ⟨w.heap.size, 0, none⟩) 1 1) (by omega) (by omega) (by omega) (by omega) (by omega)
  have v4 : (a3.put (some (d + 3)) (.slice (some ⟨w.heap.size, 0, none⟩) 1 1)).eval (.tmp (d + 3)) = .slice (some ⟨w.heap.size, 0, none⟩) 1 1 := put_same _ (by rw [s3.size]; omega)
  have v4b : (a3.put (some (d + 3)) (.slice (some ⟨w.heap.size, 0, none⟩) 1 1)).eval (.tmp (d + 1)) = v := (put_other _ (by omega)).trans v3b
  generalize a3.put (some (d + 3)) (.slice (some ⟨w.heap.size, 0, none⟩) 1 1) = a4 at s4 v4 v4b
  -- the append
  have hz := alloc_below w (.cells x.toArray T)
  have hrow' : (w.alloc (.cells x.toArray T)).ownsRow u.heap.size T k v rows.length rows.flatten := hrow.alloc _
  have hnh : v.ownBlock ≠ some hb := own_ne hrow hch hT.t2
  have hfw : rows.length + 1 ≤ 100000000 := by have := hR.few; omega
  refine wpList_append_lies _ ho.g5 (.tmp (d + 1)) (.tmp (d + 3)) ST ho.p5 u.heap.size T i0 _ k by_ hT.st hI0 hz0 hz1 hz2 (by simp [Value.cells, hT.len]) hT.k0 v rows.length rows.flatten v4b hrow' ⟨w.heap.size, 0, none⟩ 1 1 x v4 (by rw [hxl, Nat.one_mul])
    (World.news_of_block (cs := x.toArray) (t := T) (fr := (0, 0)) (heap_alloc_new w _)) (fits_one hfit) (by decide) (by unfold maxLen; omega) (by have h1 := hT.by1; have h2 : (rows.length + 1) * by_ ≤ 100000000 * 1000000 := Nat.mul_le_mul hfw h1; omega) (by have := hfr.size; simp; omega) (w.heap.size + 1) (by simp) ?_
  intro gg cap wB hown hgrow hat hlt
  rw [ho.d5]
  have s5 := s4.put (d := d + 4) (.slice (some ⟨gg, 0, none⟩) (rows.length + 1) cap) (by omega) (by omega) (by omega) (by omega) (by omega)
  have v5 : (a4.put (some (d + 4)) (.slice (some ⟨gg, 0, none⟩) (rows.length + 1) cap)).eval (.tmp (d + 4)) = .slice (some ⟨gg, 0, none⟩) (rows.length + 1) cap := put_same _ (by rw [s4.size]; omega)
  generalize a4.put (some (d + 4)) (.slice (some ⟨gg, 0, none⟩) (rows.length + 1) cap) = a5 at s5 v5
  -- the field's address anew, and the store
  refine wpList_run ho.g6 (.pointer (some ⟨hb, j, none⟩)) (by unfold execOp; simp only [ho.p6, s5.s5, Sem.run_bind, hT.fa hb wB, Result.andThen_ok, Sem.run_pure]) ?_
  rw [ho.d6]
  have s6 := s5.put (d := d + 5) (.pointer (some ⟨hb, j, none⟩)) (by omega) (by omega) (by omega) (by omega) (by omega)
  have v6 : (a5.put (some (d + 5)) (.pointer (some ⟨hb, j, none⟩))).eval (.tmp (d + 5)) = .pointer (some ⟨hb, j, none⟩) := put_same _ (by rw [s5.size]; omega)
  have v6b : (a5.put (some (d + 5)) (.pointer (some ⟨hb, j, none⟩))).eval (.tmp (d + 4)) = .slice (some ⟨gg, 0, none⟩) (rows.length + 1) cap := (put_other _ (by omega)).trans v5
  generalize a5.put (some (d + 5)) (.pointer (some ⟨hb, j, none⟩)) = a6 at s6 v6 v6b
  have hhb : hb < w.heap.size := hch.lt
  have hcB : Cs hb TH (hcs.set j v) wB := Cs.keep (hch.keep (hz.block hb hhb)) (hgrow.block hb (Nat.lt_of_lt_of_le hhb hz.size) (fun e => hnh e.symm))
  have hgg : (Value.slice (some ⟨gg, 0, none⟩) (rows.length + 1) cap).ownBlock ≠ some hb := by
    intro e
    have e' : gg = hb := by simpa [Value.ownBlock] using e
    rcases hat with q | q
    · exact hnh (by rw [q, e'])
    · omega
  refine wpList_storeV ho.g7 ST (.tmp (d + 5)) (.tmp (d + 4)) ho.p7 hb j (.slice (some ⟨gg, 0, none⟩) (rows.length + 1) cap) [.slice (some ⟨gg, 0, none⟩) (rows.length + 1) cap] v6 v6b rfl ?_ hT.one (by intro q hq; rw [List.mem_singleton.1 hq]; rfl) ?_
  · intro q hq
    obtain rfl : q = 0 := by simpa using hq
    refine ⟨?_, hcB.frozen _⟩
    rw [Nat.add_zero, hcB.cell, List.getElem?_set_self hjl]; rfl
  · rw [ho.d7, put_none]
    refine wpList_nil (h a6 _ st' (rows ++ [x]) (.slice (some ⟨gg, 0, none⟩) (rows.length + 1) cap) s6 ?_)
    exact RLp.push hR hbad hp.symm hT.t1 hT.t2 hne hkn (hrw.below hz) (hch.keep (hz.block hb hhb)) (hck.keep (hz.block rk hck.lt)) hrow' (hfr.trans (Fr.of_below hz) fun i hi => .inl hi) hown hgrow hgg
/-! ### The thing's variable -/
/-- The slots at a round's head: no thing stands yet. -/
structure Hd (N c rk rb hb m : Nat) (a : Act) : Prop where
  size : a.tmps.size = N
  defers : a.defers = []
  s2 : a.eval (.tmp 2) = .pointer (some ⟨rk, 0, none⟩)
  s4 : a.eval (.tmp 4) = .pointer (some ⟨rb, 0, none⟩)
  s5 : a.eval (.tmp 5) = .pointer (some ⟨hb, 0, none⟩)
  sc : a.eval (.tmp c) = .int .i64 (m : Int)
theorem Hd.put {N c rk rb hb m d : Nat} {a : Act} (h : Hd N c rk rb hb m a) (v : Value) (h2 : d ≠ 2) (h4 : d ≠ 4) (h5 : d ≠ 5) (hc : d ≠ c) : Hd N c rk rb hb m (a.put (some d) v) :=
  ⟨(put_size _ _ _).trans h.size, (put_defers _ _ _).trans h.defers, (put_other v h2.symm).trans h.s2, (put_other v h4.symm).trans h.s4, (put_other v h5.symm).trans h.s5, (put_other v hc.symm).trans h.sc⟩
theorem Sl.hd {N e c rk rb hb xb m : Nat} {a : Act} (h : Sl N e c rk rb hb xb m a) : Hd N c rk rb hb m a := ⟨h.size, h.defers, h.s2, h.s4, h.s5, h.sc⟩
theorem alloc_step {T ST TH : TypeId} {e j k by_ : Nat} {o1 : Oper} {id N c rk rb hb m : Nat} {ks : List K} {st : Rd} {a : Act} {w : World} {Q : Exit → Act → World → Prop} (g1 : o1.guard = none) (p1 : o1.op = .alloc T) (d1 : o1.dst = some e) (hT : LT T ST TH j k by_ ks)
    (he : e < 35) (he2 : 5 < e) (hec : e ≠ c) (hN : 35 < N) (hH : Hd N c rk rb hb m a) (hrw : RW rb st w) (h : ∀ a' w', BS N e c rk rb hb w.heap.size m T st [] ks w a' w' → Q .normal a' w') : (Code.region id #[o1] false).wp Try.prog Q a w := by
  refine wp_region_list ?_
  show wpList _ _ _ [o1] a w
  have hrun : (execOp a.eval o1).run Try.prog w = .ok (.value (.pointer (some ⟨w.heap.size, 0, none⟩))) (w.alloc (.cells (ks.map zeroV).toArray T)) := by
    unfold execOp
    simp [p1, Instr.alloc, Sem.run_bind, hT.zero w, newVar, newRow, Value.cells, go_sem]
  refine Great.wpList_allocTo g1 (some e) d1 (.pointer (some ⟨w.heap.size, 0, none⟩)) _ hrun ?_
  have s1 := hH.put (d := e) (.pointer (some ⟨w.heap.size, 0, none⟩)) (by omega) (by omega) (by omega) hec
  have v1 : (a.put (some e) (.pointer (some ⟨w.heap.size, 0, none⟩))).eval (.tmp e) = .pointer (some ⟨w.heap.size, 0, none⟩) := put_same _ (by rw [hH.size]; omega)
  refine wpList_nil (h _ _ ⟨⟨s1.size, s1.defers, s1.s2, s1.s4, s1.s5, v1, s1.sc⟩, ?_, ?_, Fr.of_below (alloc_below _ _)⟩)
  · exact RW.below hrw (alloc_below _ _)
  · exact cs_alloc _ _ _ _ rfl
/-! ### A list's loop -/
/-- The head: is something to come, and is nothing bad? -/
structure HeadOps (c d : Nat) (p : Nat → Oper) : Prop where
  g : ∀ i, i < 3 → (p i).guard = none
  gg : ∀ i, 3 ≤ i → i < 8 → (p i).guard = some (2, true)
  g8 : (p 8).guard = none
  p0 : (p 0).op = .move (.tmp c)
  p1 : ∃ r, (p 1).op = .binOp .gtr 3 (.tmp d) (.const (.int .i64 0)) r
  p2 : (p 2).op = .move (.tmp (d + 1))
  p3 : (p 3).op = .move (.tmp 4)
  p4 : (p 4).op = .nilCheck (.tmp (d + 3))
  p5 : (p 5).op = .fieldAddr 67 (.tmp (d + 4)) 1
  p6 : (p 6).op = .load 4 (.tmp (d + 5))
  p7 : ∃ t, (p 7).op = .unOp .not t (.tmp (d + 6))
  p8 : (p 8).op = .pick (.tmp (d + 2)) (.tmp (d + 7)) (.const (.bool false))
  dd : ∀ i, i < 9 → (p i).dst = some (d + i)
theorem wpList_skip {P : Program} {ops : Array Oper} {rest : List Oper} {o : Oper} {a : Act} {w : World} {Q : Exit → Act → World → Prop} (hw : Region.wanted o (yielded ops a.tmps) = false) (h : wpList P ops Q rest (a.put o.dst undef) w) : wpList P ops Q (o :: rest) a w :=
  wpList_step fun K hK => by rw [if_neg (by rw [hw]; simp)]; exact hK _ _ h
theorem wpList_want {P : Program} {ops : Array Oper} {rest : List Oper} {o : Oper} {a : Act} {w : World} {Q : Exit → Act → World → Prop} (hw : Region.wanted o (yielded ops a.tmps) = true) (v : Value) (hv : (execOp a.eval o).run P w = .ok (.value v) w) (h : wpList P ops Q rest (a.put o.dst v) w) : wpList P ops Q (o :: rest) a w :=
  wpList_step fun K hK => by
    rw [if_pos hw]
    unfold Oper.wp
    rw [hv]
    exact hK _ _ h
theorem eval_get {a : Act} {s : Nat} (hs : s < a.tmps.size) : a.tmps[s]? = some (a.eval (.tmp s)) := by
  simp [Act.eval, Array.getD_eq_getD_getElem?, hs]
set_option maxHeartbeats 1000000 in
theorem head_step {c d : Nat} {p : Nat → Oper} {id N rk rb hb m : Nat} {st : Rd} {a : Act} {w : World} {Q : Exit → Act → World → Prop} (ho : HeadOps c d p) (hd : 35 ≤ d) (hc : c < 35) (hN : d + 8 < N) (hH : Hd N c rk rb hb m a) (hrw : RW rb st w) (hm : m ≤ 100000000)
    (h : ∀ a', Hd N c rk rb hb m a' → a'.eval (.tmp (d + 8)) = .bool (decide (0 < m) && !st.bad) → Q .normal a' w) : (Code.region id #[p 0, p 1, p 2, p 3, p 4, p 5, p 6, p 7, p 8] false).wp Try.prog Q a w := by
  refine wp_region_list ?_
  show wpList _ _ _ [p 0, p 1, p 2, p 3, p 4, p 5, p 6, p 7, p 8] a w
  obtain ⟨ops, hops⟩ : ∃ ops : Array Oper, ops = #[p 0, p 1, p 2, p 3, p 4, p 5, p 6, p 7, p 8] := ⟨_, rfl⟩
  have hop2 : ops[2]? = some (p 2) := by rw [hops]; rfl
  rw [← hops]
  clear hops
  refine wpList_mv (ho.g 0 (by decide)) (.tmp c) (.inl ho.p0) ?_
  rw [ho.dd 0 (by decide), hH.sc]
  have s1 := hH.put (d := d + 0) (.int .i64 (m : Int)) (by omega) (by omega) (by omega) (by omega)
  have v1 : (a.put (some (d + 0)) (.int .i64 (m : Int))).eval (.tmp d) = .int .i64 (m : Int) := put_same _ (by rw [hH.size]; omega)
  generalize a.put (some (d + 0)) (.int .i64 (m : Int)) = a1 at s1 v1
  obtain ⟨r1, hp1⟩ := ho.p1
  refine wpList_run (ho.g 1 (by decide)) (.bool (decide (0 < m))) ?_ ?_
  · unfold execOp
    have e0 : a1.eval (.const (.int .i64 0)) = .int .i64 0 := rfl
    simp only [hp1, v1, e0]
    simp [go_sem]
  rw [ho.dd 1 (by decide)]
  have s2 := s1.put (d := d + 1) (.bool (decide (0 < m))) (by omega) (by omega) (by omega) (by omega)
  have v2 : (a1.put (some (d + 1)) (.bool (decide (0 < m)))).eval (.tmp (d + 1)) = .bool (decide (0 < m)) := put_same _ (by rw [s1.size]; omega)
  generalize a1.put (some (d + 1)) (.bool (decide (0 < m))) = a2 at s2 v2
  refine wpList_mv (ho.g 2 (by decide)) (.tmp (d + 1)) (.inl ho.p2) ?_
  rw [ho.dd 2 (by decide), v2]
  have s3 := s2.put (d := d + 2) (.bool (decide (0 < m))) (by omega) (by omega) (by omega) (by omega)
  have v3 : (a2.put (some (d + 2)) (.bool (decide (0 < m)))).eval (.tmp (d + 2)) = .bool (decide (0 < m)) := put_same _ (by rw [s2.size]; omega)
  generalize a2.put (some (d + 2)) (.bool (decide (0 < m))) = a3 at s3 v3
  have hw : ∀ (i : Nat) (a' : Act), 3 ≤ i → i < 8 → Hd N c rk rb hb m a' → a'.eval (.tmp (d + 2)) = .bool (decide (0 < m)) → Region.wanted (p i) (yielded ops a'.tmps) = decide (0 < m) := fun i a' h3 h8 hs hv => by
    have e1 : yielded ops a'.tmps 2 = some (decide (0 < m)) := by
      unfold yielded
      rw [hop2]
      simp only [Option.bind_some, ho.dd 2 (by decide)]
      rw [eval_get (by rw [hs.size]; omega), hv]
    unfold Region.wanted
    rw [ho.gg i h3 h8]
    simp [e1]
  by_cases hm0 : 0 < m
  · have hdm : decide (0 < m) = true := by simpa using hm0
    rw [hdm] at v3
    have hw' : ∀ (i : Nat) (a' : Act), 3 ≤ i → i < 8 → Hd N c rk rb hb m a' → a'.eval (.tmp (d + 2)) = .bool true → Region.wanted (p i) (yielded ops a'.tmps) = true := fun i a' h3 h8 hs hv => (hw i a' h3 h8 hs (by rw [hv, hdm])).trans hdm
    -- the reader
    refine wpList_want (hw' 3 a3 (by decide) (by decide) s3 v3) (.pointer (some ⟨rb, 0, none⟩)) (by unfold execOp; simp only [ho.p3, s3.s4, Sem.run_pure]) ?_
    rw [ho.dd 3 (by decide)]
    have s4 := s3.put (d := d + 3) (.pointer (some ⟨rb, 0, none⟩)) (by omega) (by omega) (by omega) (by omega)
    have v4 : (a3.put (some (d + 3)) (.pointer (some ⟨rb, 0, none⟩))).eval (.tmp (d + 3)) = .pointer (some ⟨rb, 0, none⟩) := put_same _ (by rw [s3.size]; omega)
    have u4 : (a3.put (some (d + 3)) (.pointer (some ⟨rb, 0, none⟩))).eval (.tmp (d + 2)) = .bool true := (put_other _ (by omega)).trans v3
    generalize a3.put (some (d + 3)) (.pointer (some ⟨rb, 0, none⟩)) = a4 at s4 v4 u4
    refine wpList_want (hw' 4 a4 (by decide) (by decide) s4 u4) (.pointer (some ⟨rb, 0, none⟩)) (by unfold execOp; simp only [ho.p4, v4, Sem.run_pure]) ?_
    rw [ho.dd 4 (by decide)]
    have s5 := s4.put (d := d + 4) (.pointer (some ⟨rb, 0, none⟩)) (by omega) (by omega) (by omega) (by omega)
    have v5 : (a4.put (some (d + 4)) (.pointer (some ⟨rb, 0, none⟩))).eval (.tmp (d + 4)) = .pointer (some ⟨rb, 0, none⟩) := put_same _ (by rw [s4.size]; omega)
    have u5 : (a4.put (some (d + 4)) (.pointer (some ⟨rb, 0, none⟩))).eval (.tmp (d + 2)) = .bool true := (put_other _ (by omega)).trans u4
    generalize a4.put (some (d + 4)) (.pointer (some ⟨rb, 0, none⟩)) = a5 at s5 v5 u5
    have hfa : (Instr.fieldAt 67 (.pointer (some ⟨rb, 0, none⟩)) 1).run Try.prog w = .ok (.pointer (some ⟨rb, 1, none⟩)) w := by simp [go_sem]
    refine wpList_want (hw' 5 a5 (by decide) (by decide) s5 u5) (.pointer (some ⟨rb, 1, none⟩)) (by unfold execOp; simp only [ho.p5, v5, Sem.run_bind, hfa, Result.andThen_ok, Sem.run_pure]) ?_
    rw [ho.dd 5 (by decide)]
    have s6 := s5.put (d := d + 5) (.pointer (some ⟨rb, 1, none⟩)) (by omega) (by omega) (by omega) (by omega)
    have v6 : (a5.put (some (d + 5)) (.pointer (some ⟨rb, 1, none⟩))).eval (.tmp (d + 5)) = .pointer (some ⟨rb, 1, none⟩) := put_same _ (by rw [s5.size]; omega)
    have u6 : (a5.put (some (d + 5)) (.pointer (some ⟨rb, 1, none⟩))).eval (.tmp (d + 2)) = .bool true := (put_other _ (by omega)).trans u5
    generalize a5.put (some (d + 5)) (.pointer (some ⟨rb, 1, none⟩)) = a6 at s6 v6 u6
    have hagg : (isAgg 4).run Try.prog w = .ok false w := by simp [go_sem]
    refine wpList_want (hw' 6 a6 (by decide) (by decide) s6 u6) (.bool st.bad) (by unfold execOp; simp only [ho.p6, v6]; simp [Instr.loadAt, Instr.sureAddr, loadVar, Sem.run_bind, hagg, run_load, hrw.badCell.1]) ?_
    rw [ho.dd 6 (by decide)]
    have s7 := s6.put (d := d + 6) (.bool st.bad) (by omega) (by omega) (by omega) (by omega)
    have v7 : (a6.put (some (d + 6)) (.bool st.bad)).eval (.tmp (d + 6)) = .bool st.bad := put_same _ (by rw [s6.size]; omega)
    have u7 : (a6.put (some (d + 6)) (.bool st.bad)).eval (.tmp (d + 2)) = .bool true := (put_other _ (by omega)).trans u6
    generalize a6.put (some (d + 6)) (.bool st.bad) = a7 at s7 v7 u7
    obtain ⟨t7, hp7⟩ := ho.p7
    refine wpList_want (hw' 7 a7 (by decide) (by decide) s7 u7) (.bool (!st.bad)) (by unfold execOp; simp only [hp7, v7]; simp [Op.unary, go_sem]) ?_
    rw [ho.dd 7 (by decide)]
    have s8 := s7.put (d := d + 7) (.bool (!st.bad)) (by omega) (by omega) (by omega) (by omega)
    have v8 : (a7.put (some (d + 7)) (.bool (!st.bad))).eval (.tmp (d + 7)) = .bool (!st.bad) := put_same _ (by rw [s7.size]; omega)
    have u8 : (a7.put (some (d + 7)) (.bool (!st.bad))).eval (.tmp (d + 2)) = .bool true := (put_other _ (by omega)).trans u7
    generalize a7.put (some (d + 7)) (.bool (!st.bad)) = a8 at s8 v8 u8
    refine wpList_run ho.g8 (.bool (!st.bad)) (by unfold execOp; simp only [ho.p8, u8, v8]; simp [go_sem]) ?_
    rw [ho.dd 8 (by decide)]
    refine wpList_nil (h _ (s8.put (d := d + 8) _ (by omega) (by omega) (by omega) (by omega)) ?_)
    rw [put_same _ (by rw [s8.size]; omega), hdm]; simp
  · have hdm : decide (0 < m) = false := by simpa using hm0
    rw [hdm] at v3
    have hw' : ∀ (i : Nat) (a' : Act), 3 ≤ i → i < 8 → Hd N c rk rb hb m a' → a'.eval (.tmp (d + 2)) = .bool false → Region.wanted (p i) (yielded ops a'.tmps) = false := fun i a' h3 h8 hs hv => (hw i a' h3 h8 hs (by rw [hv, hdm])).trans hdm
    refine wpList_skip (hw' 3 a3 (by decide) (by decide) s3 v3) ?_
    rw [ho.dd 3 (by decide)]
    have s4 := s3.put (d := d + 3) undef (by omega) (by omega) (by omega) (by omega)
    have u4 : (a3.put (some (d + 3)) undef).eval (.tmp (d + 2)) = .bool false := (put_other _ (by omega)).trans v3
    generalize a3.put (some (d + 3)) undef = a4 at s4 u4
    refine wpList_skip (hw' 4 a4 (by decide) (by decide) s4 u4) ?_
    rw [ho.dd 4 (by decide)]
    have s5 := s4.put (d := d + 4) undef (by omega) (by omega) (by omega) (by omega)
    have u5 : (a4.put (some (d + 4)) undef).eval (.tmp (d + 2)) = .bool false := (put_other _ (by omega)).trans u4
    generalize a4.put (some (d + 4)) undef = a5 at s5 u5
    refine wpList_skip (hw' 5 a5 (by decide) (by decide) s5 u5) ?_
    rw [ho.dd 5 (by decide)]
    have s6 := s5.put (d := d + 5) undef (by omega) (by omega) (by omega) (by omega)
    have u6 : (a5.put (some (d + 5)) undef).eval (.tmp (d + 2)) = .bool false := (put_other _ (by omega)).trans u5
    generalize a5.put (some (d + 5)) undef = a6 at s6 u6
    refine wpList_skip (hw' 6 a6 (by decide) (by decide) s6 u6) ?_
    rw [ho.dd 6 (by decide)]
    have s7 := s6.put (d := d + 6) undef (by omega) (by omega) (by omega) (by omega)
    have u7 : (a6.put (some (d + 6)) undef).eval (.tmp (d + 2)) = .bool false := (put_other _ (by omega)).trans u6
    generalize a6.put (some (d + 6)) undef = a7 at s7 u7
    refine wpList_skip (hw' 7 a7 (by decide) (by decide) s7 u7) ?_
    rw [ho.dd 7 (by decide)]
    have s8 := s7.put (d := d + 7) undef (by omega) (by omega) (by omega) (by omega)
    have u8 : (a7.put (some (d + 7)) undef).eval (.tmp (d + 2)) = .bool false := (put_other _ (by omega)).trans u7
    generalize a7.put (some (d + 7)) undef = a8 at s8 u8
    have e0 : a8.eval (.const (.bool false)) = .bool false := rfl
    refine wpList_run ho.g8 (.bool false) (by unfold execOp; simp only [ho.p8, u8, e0]; simp [go_sem]) ?_
    rw [ho.dd 8 (by decide)]
    refine wpList_nil (h _ (s8.put (d := d + 8) _ (by omega) (by omega) (by omega) (by omega)) ?_)
    rw [put_same _ (by rw [s8.size]; omega), hdm]; simp
end Go.Proofs.Ytgdoodeibcfcjaa.Wire
