/- The reference's House: each list. Printed by crhouse.py. -/
import Derived.Test.YtgdoodeibcfcjaaCRHouseU
set_option linter.unusedVariables false
set_option linter.unusedSimpArgs false
namespace Go.Proofs.Ytgdoodeibcfcjaa.Wire
open Go.RowKit Go.Proofs.Ytgdoodeibcfcjaa.NumsPure Go.Proofs.Ytgdoodeibcfcjaa.CPure Go.Proofs.Ytgdoodeibcfcjaa.Own
theorem zero_of {T : TypeId} {z : Value} {s b : Nat} (h : (Try.prog.info? T).map (fun i => (i.zero, i.size, i.bytes)) = some (some z, s, b)) (w : World) : (zeroValue T).run Try.prog w = .ok z w := by
  obtain ⟨i, hi, hz, _, _⟩ := infoParts h
  simp [zeroValue, typeInfo, hi, hz]
theorem cf_truth (vals : Array Value) (w : World) : (callFunc 26 vals).run Try.prog w = .ok (.enter 26 vals) w := by
  simp [go_sem]
theorem cf_key (vals : Array Value) (w : World) : (callFunc 27 vals).run Try.prog w = .ok (.enter 27 vals) w := by
  simp [go_sem]
theorem cf_lines (vals : Array Value) (w : World) : (callFunc 28 vals).run Try.prog w = .ok (.enter 28 vals) w := by
  simp [go_sem]
theorem vt_t : (Try.prog.info? 9).map (·.size) = some 1 := by kernel_rfl
theorem vt_n : (Try.prog.info? 3).map (·.size) = some 1 := by kernel_rfl
theorem vt_b : (Try.prog.info? 4).map (·.size) = some 1 := by kernel_rfl
theorem vt_k : (Try.prog.info? 82).map (·.size) = some 4 := by kernel_rfl
theorem vt_l : (Try.prog.info? 90).map (·.size) = some (ksL 8).length := by kernel_rfl
/-- The head, its operations one by one. -/
theorem head_ops {c d : Nat} {o0 o1 o2 o3 o4 o5 o6 o7 o8 : Oper} (g0 : o0.guard = none) (g1 : o1.guard = none) (g2 : o2.guard = none) (g3 : o3.guard = some (2, true)) (g4 : o4.guard = some (2, true)) (g5 : o5.guard = some (2, true)) (g6 : o6.guard = some (2, true)) (g7 : o7.guard = some (2, true)) (g8 : o8.guard = none)
    (p0 : o0.op = .move (.tmp c)) (p1 : ∃ r, o1.op = .binOp .gtr 3 (.tmp d) (.const (.int .i64 0)) r) (p2 : o2.op = .move (.tmp (d + 1))) (p3 : o3.op = .move (.tmp 4)) (p4 : o4.op = .nilCheck (.tmp (d + 3))) (p5 : o5.op = .fieldAddr 67 (.tmp (d + 4)) 1) (p6 : o6.op = .load 4 (.tmp (d + 5)))
    (p7 : ∃ t, o7.op = .unOp .not t (.tmp (d + 6))) (p8 : o8.op = .pick (.tmp (d + 2)) (.tmp (d + 7)) (.const (.bool false))) (d0 : o0.dst = some d) (d1 : o1.dst = some (d + 1)) (d2 : o2.dst = some (d + 2)) (d3 : o3.dst = some (d + 3)) (d4 : o4.dst = some (d + 4)) (d5 : o5.dst = some (d + 5)) (d6 : o6.dst = some (d + 6)) (d7 : o7.dst = some (d + 7)) (d8 : o8.dst = some (d + 8)) :
    HeadOps c d (fun i => ([o0, o1, o2, o3, o4, o5, o6, o7, o8] : List Oper).getD i o0) := by
  refine ⟨fun i hi => ?_, fun i h3 h8 => ?_, g8, p0, p1, p2, p3, p4, p5, p6, p7, p8, fun i hi => ?_⟩
  · rcases i with _ | _ | _ | i
    · exact g0
    · exact g1
    · exact g2
    · omega
  · rcases i with _ | _ | _ | _ | _ | _ | _ | _ | i
    · omega
    · omega
    · omega
    · exact g3
    · exact g4
    · exact g5
    · exact g6
    · exact g7
    · omega
  · rcases i with _ | _ | _ | _ | _ | _ | _ | _ | _ | i
    · exact d0
    · exact d1
    · exact d2
    · exact d3
    · exact d4
    · exact d5
    · exact d6
    · exact d7
    · exact d8
    · omega
theorem head_all {c d : Nat} {o0 o1 o2 o3 o4 o5 o6 o7 o8 : Oper} {id N rk rb hb m : Nat} {st : Rd} {a : Act} {w : World} {Q : Exit → Act → World → Prop} (ho : HeadOps c d (fun i => ([o0, o1, o2, o3, o4, o5, o6, o7, o8] : List Oper).getD i o0)) (hd : 35 ≤ d) (hc : c < 35) (hN : d + 8 < N) (hH : Hd N c rk rb hb m a) (hrw : RW rb st w) (hm : m ≤ 100000000)
    (h : ∀ a', Hd N c rk rb hb m a' → a'.eval (.tmp (d + 8)) = .bool (decide (0 < m) && !st.bad) → Q .normal a' w) : (Code.region id #[o0, o1, o2, o3, o4, o5, o6, o7, o8] false).wp Try.prog Q a w :=
  head_step (p := fun i => ([o0, o1, o2, o3, o4, o5, o6, o7, o8] : List Oper).getD i o0) ho hd hc hN hH hrw hm h
/-- The part of a sequence. -/
def seqR : Code → Code
  | .seq _ b => b
  | c => c
def seqL : Code → Code
  | .seq a _ => a
  | c => c
def dropC : Nat → Code → Code
  | 0, c => c
  | n + 1, c => dropC n (seqR c)
noncomputable def bodyH : Code := (Try.f8.body).getD .skip
noncomputable def listC (i : Nat) : Code := seqL (dropC (i + 3) bodyH)
theorem lt_item : LT 73 22 37 0 14 136 (ksJ 0) where
  st := Try.underlying22
  row := ⟨_, Try.underlying73, rfl⟩
  info := info_item
  len := rfl
  k0 := by decide
  k1 := by decide
  by1 := by decide
  fa := fun b w => by simp [go_sem]
  agg := fun w => by simp [go_sem]
  one := by kernel_rfl
  zero := fun w => zero_of info_item w
  t1 := by decide
  t2 := by decide
theorem lt_lot : LT 76 23 37 1 3 40 (ksJ 1) where
  st := Try.underlying23
  row := ⟨_, Try.underlying76, rfl⟩
  info := info_lot
  len := rfl
  k0 := by decide
  k1 := by decide
  by1 := by decide
  fa := fun b w => by simp [go_sem]
  agg := fun w => by simp [go_sem]
  one := by kernel_rfl
  zero := fun w => zero_of info_lot w
  t1 := by decide
  t2 := by decide
theorem lt_zone : LT 78 24 37 2 2 32 (ksJ 2) where
  st := Try.underlying24
  row := ⟨_, Try.underlying78, rfl⟩
  info := info_zone
  len := rfl
  k0 := by decide
  k1 := by decide
  by1 := by decide
  fa := fun b w => by simp [go_sem]
  agg := fun w => by simp [go_sem]
  one := by kernel_rfl
  zero := fun w => zero_of info_zone w
  t1 := by decide
  t2 := by decide
theorem lt_bin : LT 80 25 37 3 8 80 (ksJ 3) where
  st := Try.underlying25
  row := ⟨_, Try.underlying80, rfl⟩
  info := info_bin
  len := rfl
  k0 := by decide
  k1 := by decide
  by1 := by decide
  fa := fun b w => by simp [go_sem]
  agg := fun w => by simp [go_sem]
  one := by kernel_rfl
  zero := fun w => zero_of info_bin w
  t1 := by decide
  t2 := by decide
theorem lt_quant : LT 84 26 37 4 6 72 (ksJ 4) where
  st := Try.underlying26
  row := ⟨_, Try.underlying84, rfl⟩
  info := info_quant
  len := rfl
  k0 := by decide
  k1 := by decide
  by1 := by decide
  fa := fun b w => by simp [go_sem]
  agg := fun w => by simp [go_sem]
  one := by kernel_rfl
  zero := fun w => zero_of info_quant w
  t1 := by decide
  t2 := by decide
theorem lt_rule : LT 87 27 37 5 3 40 (ksJ 5) where
  st := Try.underlying27
  row := ⟨_, Try.underlying87, rfl⟩
  info := info_rule
  len := rfl
  k0 := by decide
  k1 := by decide
  by1 := by decide
  fa := fun b w => by simp [go_sem]
  agg := fun w => by simp [go_sem]
  one := by kernel_rfl
  zero := fun w => zero_of info_rule w
  t1 := by decide
  t2 := by decide
theorem lt_notice : LT 92 28 37 6 51 488 (ksJ 6) where
  st := Try.underlying28
  row := ⟨_, Try.underlying92, rfl⟩
  info := info_notice
  len := rfl
  k0 := by decide
  k1 := by decide
  by1 := by decide
  fa := fun b w => by simp [go_sem]
  agg := fun w => by simp [go_sem]
  one := by kernel_rfl
  zero := fun w => zero_of info_notice w
  t1 := by decide
  t2 := by decide
theorem lt_order : LT 95 29 37 7 50 480 (ksJ 7) where
  st := Try.underlying29
  row := ⟨_, Try.underlying95, rfl⟩
  info := info_order
  len := rfl
  k0 := by decide
  k1 := by decide
  by1 := by decide
  fa := fun b w => by simp [go_sem]
  agg := fun w => by simp [go_sem]
  one := by kernel_rfl
  zero := fun w => zero_of info_order w
  t1 := by decide
  t2 := by decide
theorem lt_claim : LT 97 30 37 8 8 96 (ksJ 8) where
  st := Try.underlying30
  row := ⟨_, Try.underlying97, rfl⟩
  info := info_claim
  len := rfl
  k0 := by decide
  k1 := by decide
  by1 := by decide
  fa := fun b w => by simp [go_sem]
  agg := fun w => by simp [go_sem]
  one := by kernel_rfl
  zero := fun w => zero_of info_claim w
  t1 := by decide
  t2 := by decide
theorem lt_task : LT 99 31 37 9 11 136 (ksJ 9) where
  st := Try.underlying31
  row := ⟨_, Try.underlying99, rfl⟩
  info := info_task
  len := rfl
  k0 := by decide
  k1 := by decide
  by1 := by decide
  fa := fun b w => by simp [go_sem]
  agg := fun w => by simp [go_sem]
  one := by kernel_rfl
  zero := fun w => zero_of info_task w
  t1 := by decide
  t2 := by decide
theorem lt_parcel : LT 101 32 37 10 2 32 (ksJ 10) where
  st := Try.underlying32
  row := ⟨_, Try.underlying101, rfl⟩
  info := info_parcel
  len := rfl
  k0 := by decide
  k1 := by decide
  by1 := by decide
  fa := fun b w => by simp [go_sem]
  agg := fun w => by simp [go_sem]
  one := by kernel_rfl
  zero := fun w => zero_of info_parcel w
  t1 := by decide
  t2 := by decide
theorem lt_sent : LT 103 33 37 11 5 64 (ksJ 11) where
  st := Try.underlying33
  row := ⟨_, Try.underlying103, rfl⟩
  info := info_sent
  len := rfl
  k0 := by decide
  k1 := by decide
  by1 := by decide
  fa := fun b w => by simp [go_sem]
  agg := fun w => by simp [go_sem]
  one := by kernel_rfl
  zero := fun w => zero_of info_sent w
  t1 := by decide
  t2 := by decide
theorem lt_counted : LT 105 34 37 12 5 64 (ksJ 12) where
  st := Try.underlying34
  row := ⟨_, Try.underlying105, rfl⟩
  info := info_counted
  len := rfl
  k0 := by decide
  k1 := by decide
  by1 := by decide
  fa := fun b w => by simp [go_sem]
  agg := fun w => by simp [go_sem]
  one := by kernel_rfl
  zero := fun w => zero_of info_counted w
  t1 := by decide
  t2 := by decide
theorem lt_total : LT 107 35 37 13 6 64 (ksJ 13) where
  st := Try.underlying35
  row := ⟨_, Try.underlying107, rfl⟩
  info := info_total
  len := rfl
  k0 := by decide
  k1 := by decide
  by1 := by decide
  fa := fun b w => by simp [go_sem]
  agg := fun w => by simp [go_sem]
  one := by kernel_rfl
  zero := fun w => zero_of info_total w
  t1 := by decide
  t2 := by decide
set_option maxHeartbeats 4000000 in
set_option maxRecDepth 100000 in
theorem list_item {rk rb hb : Nat} {s0 : Rd} {vals : Nat → Value} {w0 : World} {a : Act} {w : World} {Q : Exit → Act → World → Prop} (hs0 : s0.D.length ≤ 100000000) (hbr : hb ≠ rb) (hrkn : rk ≠ rb) (hkh : rk ≠ hb)
    (hH : HS 515 rk rb hb 0 s0 vals w0 a w) (h : ∀ a' w' vals', HS 515 rk rb hb 1 s0 vals' w0 a' w' → Q .normal a' w') : (listC 0).wp Try.prog Q a w := by
  refine list_all (i := 0) (c := 6) (d := 38) (hs := 48) (by decide) hs0 hbr hrkn hkh ⟨rfl, rfl, rfl, rfl, ⟨_, rfl⟩, rfl, rfl, rfl, rfl⟩ (by decide) (by decide) (by decide) (by decide) ?_ ?_ ?_ hH h
  · intro a w m st Q hH hr hm hh
    exact head_all (c := 6) (d := 40) (head_ops rfl rfl rfl rfl rfl rfl rfl rfl rfl rfl ⟨_, rfl⟩ rfl rfl rfl rfl rfl ⟨_, rfl⟩ rfl rfl rfl rfl rfl rfl rfl rfl rfl rfl) (by decide) (by decide) (by decide) hH hr hm hh
  · intro hcs zs all u a w m st rows v Q hjl hH hR hbad hQ
    have hne : w.heap.size ≠ rb := fun e => absurd hR.rw_.lt (by omega)
    refine wp_seq (alloc_step (e := 7) rfl rfl rfl lt_item (by decide) (by decide) (by decide) (by decide) hH hR.rw_ fun a0 w0 b0 => ?_)
    show Code.wp _ (Code.seq _ _) _ a0 w0
    have b0 : BS 515 7 6 rk rb hb w.heap.size (m + 1) 73 st ([] : List K) ([K.t] ++ (unitsK 4 ++ ([K.n] ++ ([K.n] ++ ([K.b] ++ ([K.b] ++ ([K.b] ++ ([])))))))) w a0 w0 := b0
    refine wp_seq (field_step (e := 7) (d := 51) (TX := 73) (j := 0) (o := 0) ⟨rfl, rfl, rfl, rfl, rfl, ⟨_, rfl⟩, rfl, rfl, rfl, rfl, rfl, rfl⟩ (ReadsG.of1 text_1) cf_textU (fun b w => by simp [go_sem]) vt_t rfl (by decide) (by decide) (by decide) (by decide) hne b0 fun a1 w1 b1 => ?_)
    show Code.wp _ (Code.seq _ _) _ a1 w1
    have b1 : BS 515 7 6 rk rb hb w.heap.size (m + 1) 73 st (([] : List K) ++ [K.t]) (unitsK 4 ++ ([K.n] ++ ([K.n] ++ ([K.b] ++ ([K.b] ++ ([K.b] ++ ([]))))))) w a1 w1 := b1
    refine wp_seq (units_all (e := 7) (uc := 8) (d1 := 54) (d2 := 56) (du1 := 58) (du2 := 64) ⟨rfl, rfl, rfl, rfl, rfl, rfl, rfl, rfl, rfl, ⟨_, rfl⟩, rfl, rfl, rfl, ⟨_, rfl⟩, rfl, rfl, rfl, rfl⟩ ⟨rfl, rfl, rfl, rfl, rfl, rfl, rfl, rfl, rfl, ⟨_, rfl⟩, rfl, rfl, rfl, rfl, rfl, rfl, rfl, rfl, rfl, rfl, rfl⟩ ⟨rfl, rfl, rfl, rfl, rfl, rfl, rfl, rfl, rfl, ⟨_, rfl⟩, rfl, rfl, rfl, rfl, rfl, rfl, rfl, rfl, rfl, rfl, rfl⟩ (by decide) (by decide) (by decide) (by decide) (by decide) (by decide) (by decide) (by decide) (by decide) (by decide) (by decide) (by decide) (by decide) (by decide) hne (by decide) b1 fun a2 w2 b2 => ?_)
    show Code.wp _ (Code.seq _ _) _ a2 w2
    have b2 : BS 515 7 6 rk rb hb w.heap.size (m + 1) 73 st ((([] : List K) ++ [K.t]) ++ unitsK 4) ([K.n] ++ ([K.n] ++ ([K.b] ++ ([K.b] ++ ([K.b] ++ ([])))))) w a2 w2 := b2
    refine wp_seq (field_step (e := 7) (d := 70) (TX := 73) (j := 2) (o := 9) ⟨rfl, rfl, rfl, rfl, rfl, ⟨_, rfl⟩, rfl, rfl, rfl, rfl, rfl, rfl⟩ (ReadsG.of1 num_1) cf_numU (fun b w => by simp [go_sem]) vt_n rfl (by decide) (by decide) (by decide) (by decide) hne b2 fun a3 w3 b3 => ?_)
    show Code.wp _ (Code.seq _ _) _ a3 w3
    have b3 : BS 515 7 6 rk rb hb w.heap.size (m + 1) 73 st (((([] : List K) ++ [K.t]) ++ unitsK 4) ++ [K.n]) ([K.n] ++ ([K.b] ++ ([K.b] ++ ([K.b] ++ ([]))))) w a3 w3 := b3
    refine wp_seq (field_step (e := 7) (d := 73) (TX := 73) (j := 3) (o := 10) ⟨rfl, rfl, rfl, rfl, rfl, ⟨_, rfl⟩, rfl, rfl, rfl, rfl, rfl, rfl⟩ (ReadsG.of1 num_1) cf_numU (fun b w => by simp [go_sem]) vt_n rfl (by decide) (by decide) (by decide) (by decide) hne b3 fun a4 w4 b4 => ?_)
    show Code.wp _ (Code.seq _ _) _ a4 w4
    have b4 : BS 515 7 6 rk rb hb w.heap.size (m + 1) 73 st ((((([] : List K) ++ [K.t]) ++ unitsK 4) ++ [K.n]) ++ [K.n]) ([K.b] ++ ([K.b] ++ ([K.b] ++ ([])))) w a4 w4 := b4
    refine wp_seq (field_step (e := 7) (d := 76) (TX := 73) (j := 4) (o := 11) ⟨rfl, rfl, rfl, rfl, rfl, ⟨_, rfl⟩, rfl, rfl, rfl, rfl, rfl, rfl⟩ (ReadsG.of1 truth_1) cf_truth (fun b w => by simp [go_sem]) vt_b rfl (by decide) (by decide) (by decide) (by decide) hne b4 fun a5 w5 b5 => ?_)
    show Code.wp _ (Code.seq _ _) _ a5 w5
    have b5 : BS 515 7 6 rk rb hb w.heap.size (m + 1) 73 st (((((([] : List K) ++ [K.t]) ++ unitsK 4) ++ [K.n]) ++ [K.n]) ++ [K.b]) ([K.b] ++ ([K.b] ++ ([]))) w a5 w5 := b5
    refine wp_seq (field_step (e := 7) (d := 79) (TX := 73) (j := 5) (o := 12) ⟨rfl, rfl, rfl, rfl, rfl, ⟨_, rfl⟩, rfl, rfl, rfl, rfl, rfl, rfl⟩ (ReadsG.of1 truth_1) cf_truth (fun b w => by simp [go_sem]) vt_b rfl (by decide) (by decide) (by decide) (by decide) hne b5 fun a6 w6 b6 => ?_)
    show Code.wp _ (Code.seq _ _) _ a6 w6
    have b6 : BS 515 7 6 rk rb hb w.heap.size (m + 1) 73 st ((((((([] : List K) ++ [K.t]) ++ unitsK 4) ++ [K.n]) ++ [K.n]) ++ [K.b]) ++ [K.b]) ([K.b] ++ ([])) w a6 w6 := b6
    refine wp_seq (field_step (e := 7) (d := 82) (TX := 73) (j := 6) (o := 13) ⟨rfl, rfl, rfl, rfl, rfl, ⟨_, rfl⟩, rfl, rfl, rfl, rfl, rfl, rfl⟩ (ReadsG.of1 truth_1) cf_truth (fun b w => by simp [go_sem]) vt_b rfl (by decide) (by decide) (by decide) (by decide) hne b6 fun a7 w7 b7 => ?_)
    show Code.wp _ (Code.region _ _ _) _ a7 w7
    have b7 : BS 515 7 6 rk rb hb w.heap.size (m + 1) 73 st (ksJ 0) [] w a7 w7 := b7
    exact append_step (e := 7) (d := 85) ⟨rfl, rfl, rfl, rfl, rfl, rfl, rfl, rfl, rfl, rfl, rfl, rfl, rfl, rfl, rfl, rfl, rfl, rfl, rfl, rfl, rfl⟩ lt_item (by decide) (by decide) (by decide) (by decide) hbr hkh hrkn hjl hR hbad b7 fun a' w' st' rows' v' s r => hQ a' w' st' rows' v' s.hd r
  · intro a w m Q hm hH hh
    exact decr_step (c := 6) (d := 49) ⟨rfl, rfl, rfl, rfl, ⟨_, rfl⟩, rfl, rfl, rfl, rfl⟩ (by decide) (by decide) (by decide) (by decide) hm hH hh
set_option maxHeartbeats 4000000 in
set_option maxRecDepth 100000 in
theorem list_lot {rk rb hb : Nat} {s0 : Rd} {vals : Nat → Value} {w0 : World} {a : Act} {w : World} {Q : Exit → Act → World → Prop} (hs0 : s0.D.length ≤ 100000000) (hbr : hb ≠ rb) (hrkn : rk ≠ rb) (hkh : rk ≠ hb)
    (hH : HS 515 rk rb hb 1 s0 vals w0 a w) (h : ∀ a' w' vals', HS 515 rk rb hb 2 s0 vals' w0 a' w' → Q .normal a' w') : (listC 1).wp Try.prog Q a w := by
  refine list_all (i := 1) (c := 9) (d := 91) (hs := 101) (by decide) hs0 hbr hrkn hkh ⟨rfl, rfl, rfl, rfl, ⟨_, rfl⟩, rfl, rfl, rfl, rfl⟩ (by decide) (by decide) (by decide) (by decide) ?_ ?_ ?_ hH h
  · intro a w m st Q hH hr hm hh
    exact head_all (c := 9) (d := 93) (head_ops rfl rfl rfl rfl rfl rfl rfl rfl rfl rfl ⟨_, rfl⟩ rfl rfl rfl rfl rfl ⟨_, rfl⟩ rfl rfl rfl rfl rfl rfl rfl rfl rfl rfl) (by decide) (by decide) (by decide) hH hr hm hh
  · intro hcs zs all u a w m st rows v Q hjl hH hR hbad hQ
    have hne : w.heap.size ≠ rb := fun e => absurd hR.rw_.lt (by omega)
    refine wp_seq (alloc_step (e := 10) rfl rfl rfl lt_lot (by decide) (by decide) (by decide) (by decide) hH hR.rw_ fun a0 w0 b0 => ?_)
    show Code.wp _ (Code.seq _ _) _ a0 w0
    have b0 : BS 515 10 9 rk rb hb w.heap.size (m + 1) 76 st ([] : List K) ([K.t] ++ ([K.t] ++ ([K.n] ++ ([])))) w a0 w0 := b0
    refine wp_seq (field_step (e := 10) (d := 104) (TX := 76) (j := 0) (o := 0) ⟨rfl, rfl, rfl, rfl, rfl, ⟨_, rfl⟩, rfl, rfl, rfl, rfl, rfl, rfl⟩ (ReadsG.of1 text_1) cf_textU (fun b w => by simp [go_sem]) vt_t rfl (by decide) (by decide) (by decide) (by decide) hne b0 fun a1 w1 b1 => ?_)
    show Code.wp _ (Code.seq _ _) _ a1 w1
    have b1 : BS 515 10 9 rk rb hb w.heap.size (m + 1) 76 st (([] : List K) ++ [K.t]) ([K.t] ++ ([K.n] ++ ([]))) w a1 w1 := b1
    refine wp_seq (field_step (e := 10) (d := 107) (TX := 76) (j := 1) (o := 1) ⟨rfl, rfl, rfl, rfl, rfl, ⟨_, rfl⟩, rfl, rfl, rfl, rfl, rfl, rfl⟩ (ReadsG.of1 text_1) cf_textU (fun b w => by simp [go_sem]) vt_t rfl (by decide) (by decide) (by decide) (by decide) hne b1 fun a2 w2 b2 => ?_)
    show Code.wp _ (Code.seq _ _) _ a2 w2
    have b2 : BS 515 10 9 rk rb hb w.heap.size (m + 1) 76 st ((([] : List K) ++ [K.t]) ++ [K.t]) ([K.n] ++ ([])) w a2 w2 := b2
    refine wp_seq (field_step (e := 10) (d := 110) (TX := 76) (j := 2) (o := 2) ⟨rfl, rfl, rfl, rfl, rfl, ⟨_, rfl⟩, rfl, rfl, rfl, rfl, rfl, rfl⟩ (ReadsG.of1 num_1) cf_numU (fun b w => by simp [go_sem]) vt_n rfl (by decide) (by decide) (by decide) (by decide) hne b2 fun a3 w3 b3 => ?_)
    show Code.wp _ (Code.region _ _ _) _ a3 w3
    have b3 : BS 515 10 9 rk rb hb w.heap.size (m + 1) 76 st (ksJ 1) [] w a3 w3 := b3
    exact append_step (e := 10) (d := 113) ⟨rfl, rfl, rfl, rfl, rfl, rfl, rfl, rfl, rfl, rfl, rfl, rfl, rfl, rfl, rfl, rfl, rfl, rfl, rfl, rfl, rfl⟩ lt_lot (by decide) (by decide) (by decide) (by decide) hbr hkh hrkn hjl hR hbad b3 fun a' w' st' rows' v' s r => hQ a' w' st' rows' v' s.hd r
  · intro a w m Q hm hH hh
    exact decr_step (c := 9) (d := 102) ⟨rfl, rfl, rfl, rfl, ⟨_, rfl⟩, rfl, rfl, rfl, rfl⟩ (by decide) (by decide) (by decide) (by decide) hm hH hh
set_option maxHeartbeats 4000000 in
set_option maxRecDepth 100000 in
theorem list_zone {rk rb hb : Nat} {s0 : Rd} {vals : Nat → Value} {w0 : World} {a : Act} {w : World} {Q : Exit → Act → World → Prop} (hs0 : s0.D.length ≤ 100000000) (hbr : hb ≠ rb) (hrkn : rk ≠ rb) (hkh : rk ≠ hb)
    (hH : HS 515 rk rb hb 2 s0 vals w0 a w) (h : ∀ a' w' vals', HS 515 rk rb hb 3 s0 vals' w0 a' w' → Q .normal a' w') : (listC 2).wp Try.prog Q a w := by
  refine list_all (i := 2) (c := 11) (d := 119) (hs := 129) (by decide) hs0 hbr hrkn hkh ⟨rfl, rfl, rfl, rfl, ⟨_, rfl⟩, rfl, rfl, rfl, rfl⟩ (by decide) (by decide) (by decide) (by decide) ?_ ?_ ?_ hH h
  · intro a w m st Q hH hr hm hh
    exact head_all (c := 11) (d := 121) (head_ops rfl rfl rfl rfl rfl rfl rfl rfl rfl rfl ⟨_, rfl⟩ rfl rfl rfl rfl rfl ⟨_, rfl⟩ rfl rfl rfl rfl rfl rfl rfl rfl rfl rfl) (by decide) (by decide) (by decide) hH hr hm hh
  · intro hcs zs all u a w m st rows v Q hjl hH hR hbad hQ
    have hne : w.heap.size ≠ rb := fun e => absurd hR.rw_.lt (by omega)
    refine wp_seq (alloc_step (e := 12) rfl rfl rfl lt_zone (by decide) (by decide) (by decide) (by decide) hH hR.rw_ fun a0 w0 b0 => ?_)
    show Code.wp _ (Code.seq _ _) _ a0 w0
    have b0 : BS 515 12 11 rk rb hb w.heap.size (m + 1) 78 st ([] : List K) ([K.t] ++ ([K.t] ++ ([]))) w a0 w0 := b0
    refine wp_seq (field_step (e := 12) (d := 132) (TX := 78) (j := 0) (o := 0) ⟨rfl, rfl, rfl, rfl, rfl, ⟨_, rfl⟩, rfl, rfl, rfl, rfl, rfl, rfl⟩ (ReadsG.of1 text_1) cf_textU (fun b w => by simp [go_sem]) vt_t rfl (by decide) (by decide) (by decide) (by decide) hne b0 fun a1 w1 b1 => ?_)
    show Code.wp _ (Code.seq _ _) _ a1 w1
    have b1 : BS 515 12 11 rk rb hb w.heap.size (m + 1) 78 st (([] : List K) ++ [K.t]) ([K.t] ++ ([])) w a1 w1 := b1
    refine wp_seq (field_step (e := 12) (d := 135) (TX := 78) (j := 1) (o := 1) ⟨rfl, rfl, rfl, rfl, rfl, ⟨_, rfl⟩, rfl, rfl, rfl, rfl, rfl, rfl⟩ (ReadsG.of1 text_1) cf_textU (fun b w => by simp [go_sem]) vt_t rfl (by decide) (by decide) (by decide) (by decide) hne b1 fun a2 w2 b2 => ?_)
    show Code.wp _ (Code.region _ _ _) _ a2 w2
    have b2 : BS 515 12 11 rk rb hb w.heap.size (m + 1) 78 st (ksJ 2) [] w a2 w2 := b2
    exact append_step (e := 12) (d := 138) ⟨rfl, rfl, rfl, rfl, rfl, rfl, rfl, rfl, rfl, rfl, rfl, rfl, rfl, rfl, rfl, rfl, rfl, rfl, rfl, rfl, rfl⟩ lt_zone (by decide) (by decide) (by decide) (by decide) hbr hkh hrkn hjl hR hbad b2 fun a' w' st' rows' v' s r => hQ a' w' st' rows' v' s.hd r
  · intro a w m Q hm hH hh
    exact decr_step (c := 11) (d := 130) ⟨rfl, rfl, rfl, rfl, ⟨_, rfl⟩, rfl, rfl, rfl, rfl⟩ (by decide) (by decide) (by decide) (by decide) hm hH hh
set_option maxHeartbeats 4000000 in
set_option maxRecDepth 100000 in
theorem list_bin {rk rb hb : Nat} {s0 : Rd} {vals : Nat → Value} {w0 : World} {a : Act} {w : World} {Q : Exit → Act → World → Prop} (hs0 : s0.D.length ≤ 100000000) (hbr : hb ≠ rb) (hrkn : rk ≠ rb) (hkh : rk ≠ hb)
    (hH : HS 515 rk rb hb 3 s0 vals w0 a w) (h : ∀ a' w' vals', HS 515 rk rb hb 4 s0 vals' w0 a' w' → Q .normal a' w') : (listC 3).wp Try.prog Q a w := by
  refine list_all (i := 3) (c := 13) (d := 144) (hs := 154) (by decide) hs0 hbr hrkn hkh ⟨rfl, rfl, rfl, rfl, ⟨_, rfl⟩, rfl, rfl, rfl, rfl⟩ (by decide) (by decide) (by decide) (by decide) ?_ ?_ ?_ hH h
  · intro a w m st Q hH hr hm hh
    exact head_all (c := 13) (d := 146) (head_ops rfl rfl rfl rfl rfl rfl rfl rfl rfl rfl ⟨_, rfl⟩ rfl rfl rfl rfl rfl ⟨_, rfl⟩ rfl rfl rfl rfl rfl rfl rfl rfl rfl rfl) (by decide) (by decide) (by decide) hH hr hm hh
  · intro hcs zs all u a w m st rows v Q hjl hH hR hbad hQ
    have hne : w.heap.size ≠ rb := fun e => absurd hR.rw_.lt (by omega)
    refine wp_seq (alloc_step (e := 14) rfl rfl rfl lt_bin (by decide) (by decide) (by decide) (by decide) hH hR.rw_ fun a0 w0 b0 => ?_)
    show Code.wp _ (Code.seq _ _) _ a0 w0
    have b0 : BS 515 14 13 rk rb hb w.heap.size (m + 1) 80 st ([] : List K) ([K.t] ++ ([K.t] ++ ([K.n] ++ ([K.n] ++ ([K.n] ++ ([K.n] ++ ([K.n] ++ ([K.b] ++ ([]))))))))) w a0 w0 := b0
    refine wp_seq (field_step (e := 14) (d := 157) (TX := 80) (j := 0) (o := 0) ⟨rfl, rfl, rfl, rfl, rfl, ⟨_, rfl⟩, rfl, rfl, rfl, rfl, rfl, rfl⟩ (ReadsG.of1 text_1) cf_textU (fun b w => by simp [go_sem]) vt_t rfl (by decide) (by decide) (by decide) (by decide) hne b0 fun a1 w1 b1 => ?_)
    show Code.wp _ (Code.seq _ _) _ a1 w1
    have b1 : BS 515 14 13 rk rb hb w.heap.size (m + 1) 80 st (([] : List K) ++ [K.t]) ([K.t] ++ ([K.n] ++ ([K.n] ++ ([K.n] ++ ([K.n] ++ ([K.n] ++ ([K.b] ++ ([])))))))) w a1 w1 := b1
    refine wp_seq (field_step (e := 14) (d := 160) (TX := 80) (j := 1) (o := 1) ⟨rfl, rfl, rfl, rfl, rfl, ⟨_, rfl⟩, rfl, rfl, rfl, rfl, rfl, rfl⟩ (ReadsG.of1 text_1) cf_textU (fun b w => by simp [go_sem]) vt_t rfl (by decide) (by decide) (by decide) (by decide) hne b1 fun a2 w2 b2 => ?_)
    show Code.wp _ (Code.seq _ _) _ a2 w2
    have b2 : BS 515 14 13 rk rb hb w.heap.size (m + 1) 80 st ((([] : List K) ++ [K.t]) ++ [K.t]) ([K.n] ++ ([K.n] ++ ([K.n] ++ ([K.n] ++ ([K.n] ++ ([K.b] ++ ([]))))))) w a2 w2 := b2
    refine wp_seq (field_step (e := 14) (d := 163) (TX := 80) (j := 2) (o := 2) ⟨rfl, rfl, rfl, rfl, rfl, ⟨_, rfl⟩, rfl, rfl, rfl, rfl, rfl, rfl⟩ (ReadsG.of1 num_1) cf_numU (fun b w => by simp [go_sem]) vt_n rfl (by decide) (by decide) (by decide) (by decide) hne b2 fun a3 w3 b3 => ?_)
    show Code.wp _ (Code.seq _ _) _ a3 w3
    have b3 : BS 515 14 13 rk rb hb w.heap.size (m + 1) 80 st (((([] : List K) ++ [K.t]) ++ [K.t]) ++ [K.n]) ([K.n] ++ ([K.n] ++ ([K.n] ++ ([K.n] ++ ([K.b] ++ ([])))))) w a3 w3 := b3
    refine wp_seq (field_step (e := 14) (d := 166) (TX := 80) (j := 3) (o := 3) ⟨rfl, rfl, rfl, rfl, rfl, ⟨_, rfl⟩, rfl, rfl, rfl, rfl, rfl, rfl⟩ (ReadsG.of1 num_1) cf_numU (fun b w => by simp [go_sem]) vt_n rfl (by decide) (by decide) (by decide) (by decide) hne b3 fun a4 w4 b4 => ?_)
    show Code.wp _ (Code.seq _ _) _ a4 w4
    have b4 : BS 515 14 13 rk rb hb w.heap.size (m + 1) 80 st ((((([] : List K) ++ [K.t]) ++ [K.t]) ++ [K.n]) ++ [K.n]) ([K.n] ++ ([K.n] ++ ([K.n] ++ ([K.b] ++ ([]))))) w a4 w4 := b4
    refine wp_seq (field_step (e := 14) (d := 169) (TX := 80) (j := 4) (o := 4) ⟨rfl, rfl, rfl, rfl, rfl, ⟨_, rfl⟩, rfl, rfl, rfl, rfl, rfl, rfl⟩ (ReadsG.of1 num_1) cf_numU (fun b w => by simp [go_sem]) vt_n rfl (by decide) (by decide) (by decide) (by decide) hne b4 fun a5 w5 b5 => ?_)
    show Code.wp _ (Code.seq _ _) _ a5 w5
    have b5 : BS 515 14 13 rk rb hb w.heap.size (m + 1) 80 st (((((([] : List K) ++ [K.t]) ++ [K.t]) ++ [K.n]) ++ [K.n]) ++ [K.n]) ([K.n] ++ ([K.n] ++ ([K.b] ++ ([])))) w a5 w5 := b5
    refine wp_seq (field_step (e := 14) (d := 172) (TX := 80) (j := 5) (o := 5) ⟨rfl, rfl, rfl, rfl, rfl, ⟨_, rfl⟩, rfl, rfl, rfl, rfl, rfl, rfl⟩ (ReadsG.of1 num_1) cf_numU (fun b w => by simp [go_sem]) vt_n rfl (by decide) (by decide) (by decide) (by decide) hne b5 fun a6 w6 b6 => ?_)
    show Code.wp _ (Code.seq _ _) _ a6 w6
    have b6 : BS 515 14 13 rk rb hb w.heap.size (m + 1) 80 st ((((((([] : List K) ++ [K.t]) ++ [K.t]) ++ [K.n]) ++ [K.n]) ++ [K.n]) ++ [K.n]) ([K.n] ++ ([K.b] ++ ([]))) w a6 w6 := b6
    refine wp_seq (field_step (e := 14) (d := 175) (TX := 80) (j := 6) (o := 6) ⟨rfl, rfl, rfl, rfl, rfl, ⟨_, rfl⟩, rfl, rfl, rfl, rfl, rfl, rfl⟩ (ReadsG.of1 num_1) cf_numU (fun b w => by simp [go_sem]) vt_n rfl (by decide) (by decide) (by decide) (by decide) hne b6 fun a7 w7 b7 => ?_)
    show Code.wp _ (Code.seq _ _) _ a7 w7
    have b7 : BS 515 14 13 rk rb hb w.heap.size (m + 1) 80 st (((((((([] : List K) ++ [K.t]) ++ [K.t]) ++ [K.n]) ++ [K.n]) ++ [K.n]) ++ [K.n]) ++ [K.n]) ([K.b] ++ ([])) w a7 w7 := b7
    refine wp_seq (field_step (e := 14) (d := 178) (TX := 80) (j := 7) (o := 7) ⟨rfl, rfl, rfl, rfl, rfl, ⟨_, rfl⟩, rfl, rfl, rfl, rfl, rfl, rfl⟩ (ReadsG.of1 truth_1) cf_truth (fun b w => by simp [go_sem]) vt_b rfl (by decide) (by decide) (by decide) (by decide) hne b7 fun a8 w8 b8 => ?_)
    show Code.wp _ (Code.region _ _ _) _ a8 w8
    have b8 : BS 515 14 13 rk rb hb w.heap.size (m + 1) 80 st (ksJ 3) [] w a8 w8 := b8
    exact append_step (e := 14) (d := 181) ⟨rfl, rfl, rfl, rfl, rfl, rfl, rfl, rfl, rfl, rfl, rfl, rfl, rfl, rfl, rfl, rfl, rfl, rfl, rfl, rfl, rfl⟩ lt_bin (by decide) (by decide) (by decide) (by decide) hbr hkh hrkn hjl hR hbad b8 fun a' w' st' rows' v' s r => hQ a' w' st' rows' v' s.hd r
  · intro a w m Q hm hH hh
    exact decr_step (c := 13) (d := 155) ⟨rfl, rfl, rfl, rfl, ⟨_, rfl⟩, rfl, rfl, rfl, rfl⟩ (by decide) (by decide) (by decide) (by decide) hm hH hh
set_option maxHeartbeats 4000000 in
set_option maxRecDepth 100000 in
theorem list_quant {rk rb hb : Nat} {s0 : Rd} {vals : Nat → Value} {w0 : World} {a : Act} {w : World} {Q : Exit → Act → World → Prop} (hs0 : s0.D.length ≤ 100000000) (hbr : hb ≠ rb) (hrkn : rk ≠ rb) (hkh : rk ≠ hb)
    (hH : HS 515 rk rb hb 4 s0 vals w0 a w) (h : ∀ a' w' vals', HS 515 rk rb hb 5 s0 vals' w0 a' w' → Q .normal a' w') : (listC 4).wp Try.prog Q a w := by
  refine list_all (i := 4) (c := 15) (d := 187) (hs := 197) (by decide) hs0 hbr hrkn hkh ⟨rfl, rfl, rfl, rfl, ⟨_, rfl⟩, rfl, rfl, rfl, rfl⟩ (by decide) (by decide) (by decide) (by decide) ?_ ?_ ?_ hH h
  · intro a w m st Q hH hr hm hh
    exact head_all (c := 15) (d := 189) (head_ops rfl rfl rfl rfl rfl rfl rfl rfl rfl rfl ⟨_, rfl⟩ rfl rfl rfl rfl rfl ⟨_, rfl⟩ rfl rfl rfl rfl rfl rfl rfl rfl rfl rfl) (by decide) (by decide) (by decide) hH hr hm hh
  · intro hcs zs all u a w m st rows v Q hjl hH hR hbad hQ
    have hne : w.heap.size ≠ rb := fun e => absurd hR.rw_.lt (by omega)
    refine wp_seq (alloc_step (e := 16) rfl rfl rfl lt_quant (by decide) (by decide) (by decide) (by decide) hH hR.rw_ fun a0 w0 b0 => ?_)
    show Code.wp _ (Code.seq _ _) _ a0 w0
    have b0 : BS 515 16 15 rk rb hb w.heap.size (m + 1) 84 st ([] : List K) ([K.t, K.t, K.t, K.n] ++ ([K.n] ++ ([K.n] ++ ([])))) w a0 w0 := b0
    refine wp_seq (field_step (e := 16) (d := 200) (TX := 84) (j := 0) (o := 0) ⟨rfl, rfl, rfl, rfl, rfl, ⟨_, rfl⟩, rfl, rfl, rfl, rfl, rfl, rfl⟩ (ReadsG.ofM key_m) cf_key (fun b w => by simp [go_sem]) vt_k rfl (by decide) (by decide) (by decide) (by decide) hne b0 fun a1 w1 b1 => ?_)
    show Code.wp _ (Code.seq _ _) _ a1 w1
    have b1 : BS 515 16 15 rk rb hb w.heap.size (m + 1) 84 st (([] : List K) ++ [K.t, K.t, K.t, K.n]) ([K.n] ++ ([K.n] ++ ([]))) w a1 w1 := b1
    refine wp_seq (field_step (e := 16) (d := 203) (TX := 84) (j := 1) (o := 4) ⟨rfl, rfl, rfl, rfl, rfl, ⟨_, rfl⟩, rfl, rfl, rfl, rfl, rfl, rfl⟩ (ReadsG.of1 num_1) cf_numU (fun b w => by simp [go_sem]) vt_n rfl (by decide) (by decide) (by decide) (by decide) hne b1 fun a2 w2 b2 => ?_)
    show Code.wp _ (Code.seq _ _) _ a2 w2
    have b2 : BS 515 16 15 rk rb hb w.heap.size (m + 1) 84 st ((([] : List K) ++ [K.t, K.t, K.t, K.n]) ++ [K.n]) ([K.n] ++ ([])) w a2 w2 := b2
    refine wp_seq (field_step (e := 16) (d := 206) (TX := 84) (j := 2) (o := 5) ⟨rfl, rfl, rfl, rfl, rfl, ⟨_, rfl⟩, rfl, rfl, rfl, rfl, rfl, rfl⟩ (ReadsG.of1 num_1) cf_numU (fun b w => by simp [go_sem]) vt_n rfl (by decide) (by decide) (by decide) (by decide) hne b2 fun a3 w3 b3 => ?_)
    show Code.wp _ (Code.region _ _ _) _ a3 w3
    have b3 : BS 515 16 15 rk rb hb w.heap.size (m + 1) 84 st (ksJ 4) [] w a3 w3 := b3
    exact append_step (e := 16) (d := 209) ⟨rfl, rfl, rfl, rfl, rfl, rfl, rfl, rfl, rfl, rfl, rfl, rfl, rfl, rfl, rfl, rfl, rfl, rfl, rfl, rfl, rfl⟩ lt_quant (by decide) (by decide) (by decide) (by decide) hbr hkh hrkn hjl hR hbad b3 fun a' w' st' rows' v' s r => hQ a' w' st' rows' v' s.hd r
  · intro a w m Q hm hH hh
    exact decr_step (c := 15) (d := 198) ⟨rfl, rfl, rfl, rfl, ⟨_, rfl⟩, rfl, rfl, rfl, rfl⟩ (by decide) (by decide) (by decide) (by decide) hm hH hh
set_option maxHeartbeats 4000000 in
set_option maxRecDepth 100000 in
theorem list_rule {rk rb hb : Nat} {s0 : Rd} {vals : Nat → Value} {w0 : World} {a : Act} {w : World} {Q : Exit → Act → World → Prop} (hs0 : s0.D.length ≤ 100000000) (hbr : hb ≠ rb) (hrkn : rk ≠ rb) (hkh : rk ≠ hb)
    (hH : HS 515 rk rb hb 5 s0 vals w0 a w) (h : ∀ a' w' vals', HS 515 rk rb hb 6 s0 vals' w0 a' w' → Q .normal a' w') : (listC 5).wp Try.prog Q a w := by
  refine list_all (i := 5) (c := 17) (d := 215) (hs := 225) (by decide) hs0 hbr hrkn hkh ⟨rfl, rfl, rfl, rfl, ⟨_, rfl⟩, rfl, rfl, rfl, rfl⟩ (by decide) (by decide) (by decide) (by decide) ?_ ?_ ?_ hH h
  · intro a w m st Q hH hr hm hh
    exact head_all (c := 17) (d := 217) (head_ops rfl rfl rfl rfl rfl rfl rfl rfl rfl rfl ⟨_, rfl⟩ rfl rfl rfl rfl rfl ⟨_, rfl⟩ rfl rfl rfl rfl rfl rfl rfl rfl rfl rfl) (by decide) (by decide) (by decide) hH hr hm hh
  · intro hcs zs all u a w m st rows v Q hjl hH hR hbad hQ
    have hne : w.heap.size ≠ rb := fun e => absurd hR.rw_.lt (by omega)
    refine wp_seq (alloc_step (e := 18) rfl rfl rfl lt_rule (by decide) (by decide) (by decide) (by decide) hH hR.rw_ fun a0 w0 b0 => ?_)
    show Code.wp _ (Code.seq _ _) _ a0 w0
    have b0 : BS 515 18 17 rk rb hb w.heap.size (m + 1) 87 st ([] : List K) ([K.t] ++ ([K.t] ++ ([K.n] ++ ([])))) w a0 w0 := b0
    refine wp_seq (field_step (e := 18) (d := 228) (TX := 87) (j := 0) (o := 0) ⟨rfl, rfl, rfl, rfl, rfl, ⟨_, rfl⟩, rfl, rfl, rfl, rfl, rfl, rfl⟩ (ReadsG.of1 text_1) cf_textU (fun b w => by simp [go_sem]) vt_t rfl (by decide) (by decide) (by decide) (by decide) hne b0 fun a1 w1 b1 => ?_)
    show Code.wp _ (Code.seq _ _) _ a1 w1
    have b1 : BS 515 18 17 rk rb hb w.heap.size (m + 1) 87 st (([] : List K) ++ [K.t]) ([K.t] ++ ([K.n] ++ ([]))) w a1 w1 := b1
    refine wp_seq (field_step (e := 18) (d := 231) (TX := 87) (j := 1) (o := 1) ⟨rfl, rfl, rfl, rfl, rfl, ⟨_, rfl⟩, rfl, rfl, rfl, rfl, rfl, rfl⟩ (ReadsG.of1 text_1) cf_textU (fun b w => by simp [go_sem]) vt_t rfl (by decide) (by decide) (by decide) (by decide) hne b1 fun a2 w2 b2 => ?_)
    show Code.wp _ (Code.seq _ _) _ a2 w2
    have b2 : BS 515 18 17 rk rb hb w.heap.size (m + 1) 87 st ((([] : List K) ++ [K.t]) ++ [K.t]) ([K.n] ++ ([])) w a2 w2 := b2
    refine wp_seq (field_step (e := 18) (d := 234) (TX := 87) (j := 2) (o := 2) ⟨rfl, rfl, rfl, rfl, rfl, ⟨_, rfl⟩, rfl, rfl, rfl, rfl, rfl, rfl⟩ (ReadsG.of1 num_1) cf_numU (fun b w => by simp [go_sem]) vt_n rfl (by decide) (by decide) (by decide) (by decide) hne b2 fun a3 w3 b3 => ?_)
    show Code.wp _ (Code.region _ _ _) _ a3 w3
    have b3 : BS 515 18 17 rk rb hb w.heap.size (m + 1) 87 st (ksJ 5) [] w a3 w3 := b3
    exact append_step (e := 18) (d := 237) ⟨rfl, rfl, rfl, rfl, rfl, rfl, rfl, rfl, rfl, rfl, rfl, rfl, rfl, rfl, rfl, rfl, rfl, rfl, rfl, rfl, rfl⟩ lt_rule (by decide) (by decide) (by decide) (by decide) hbr hkh hrkn hjl hR hbad b3 fun a' w' st' rows' v' s r => hQ a' w' st' rows' v' s.hd r
  · intro a w m Q hm hH hh
    exact decr_step (c := 17) (d := 226) ⟨rfl, rfl, rfl, rfl, ⟨_, rfl⟩, rfl, rfl, rfl, rfl⟩ (by decide) (by decide) (by decide) (by decide) hm hH hh
set_option maxHeartbeats 4000000 in
set_option maxRecDepth 100000 in
theorem list_notice {rk rb hb : Nat} {s0 : Rd} {vals : Nat → Value} {w0 : World} {a : Act} {w : World} {Q : Exit → Act → World → Prop} (hs0 : s0.D.length ≤ 100000000) (hbr : hb ≠ rb) (hrkn : rk ≠ rb) (hkh : rk ≠ hb)
    (hH : HS 515 rk rb hb 6 s0 vals w0 a w) (h : ∀ a' w' vals', HS 515 rk rb hb 7 s0 vals' w0 a' w' → Q .normal a' w') : (listC 6).wp Try.prog Q a w := by
  refine list_all (i := 6) (c := 19) (d := 243) (hs := 253) (by decide) hs0 hbr hrkn hkh ⟨rfl, rfl, rfl, rfl, ⟨_, rfl⟩, rfl, rfl, rfl, rfl⟩ (by decide) (by decide) (by decide) (by decide) ?_ ?_ ?_ hH h
  · intro a w m st Q hH hr hm hh
    exact head_all (c := 19) (d := 245) (head_ops rfl rfl rfl rfl rfl rfl rfl rfl rfl rfl ⟨_, rfl⟩ rfl rfl rfl rfl rfl ⟨_, rfl⟩ rfl rfl rfl rfl rfl rfl rfl rfl rfl rfl) (by decide) (by decide) (by decide) hH hr hm hh
  · intro hcs zs all u a w m st rows v Q hjl hH hR hbad hQ
    have hne : w.heap.size ≠ rb := fun e => absurd hR.rw_.lt (by omega)
    refine wp_seq (alloc_step (e := 20) rfl rfl rfl lt_notice (by decide) (by decide) (by decide) (by decide) hH hR.rw_ fun a0 w0 b0 => ?_)
    show Code.wp _ (Code.seq _ _) _ a0 w0
    have b0 : BS 515 20 19 rk rb hb w.heap.size (m + 1) 92 st ([] : List K) ([K.t] ++ ([K.t] ++ ((ksL 8) ++ ([K.b] ++ ([]))))) w a0 w0 := b0
    refine wp_seq (field_step (e := 20) (d := 256) (TX := 92) (j := 0) (o := 0) ⟨rfl, rfl, rfl, rfl, rfl, ⟨_, rfl⟩, rfl, rfl, rfl, rfl, rfl, rfl⟩ (ReadsG.of1 text_1) cf_textU (fun b w => by simp [go_sem]) vt_t rfl (by decide) (by decide) (by decide) (by decide) hne b0 fun a1 w1 b1 => ?_)
    show Code.wp _ (Code.seq _ _) _ a1 w1
    have b1 : BS 515 20 19 rk rb hb w.heap.size (m + 1) 92 st (([] : List K) ++ [K.t]) ([K.t] ++ ((ksL 8) ++ ([K.b] ++ ([])))) w a1 w1 := b1
    refine wp_seq (field_step (e := 20) (d := 259) (TX := 92) (j := 1) (o := 1) ⟨rfl, rfl, rfl, rfl, rfl, ⟨_, rfl⟩, rfl, rfl, rfl, rfl, rfl, rfl⟩ (ReadsG.of1 text_1) cf_textU (fun b w => by simp [go_sem]) vt_t rfl (by decide) (by decide) (by decide) (by decide) hne b1 fun a2 w2 b2 => ?_)
    show Code.wp _ (Code.seq _ _) _ a2 w2
    have b2 : BS 515 20 19 rk rb hb w.heap.size (m + 1) 92 st ((([] : List K) ++ [K.t]) ++ [K.t]) ((ksL 8) ++ ([K.b] ++ ([]))) w a2 w2 := b2
    refine wp_seq (field_step (e := 20) (d := 262) (TX := 92) (j := 2) (o := 2) ⟨rfl, rfl, rfl, rfl, rfl, ⟨_, rfl⟩, rfl, rfl, rfl, rfl, rfl, rfl⟩ (ReadsG.ofM lines_m) cf_lines (fun b w => by simp [go_sem]) vt_l rfl (by decide) (by decide) (by decide) (by decide) hne b2 fun a3 w3 b3 => ?_)
    show Code.wp _ (Code.seq _ _) _ a3 w3
    have b3 : BS 515 20 19 rk rb hb w.heap.size (m + 1) 92 st (((([] : List K) ++ [K.t]) ++ [K.t]) ++ (ksL 8)) ([K.b] ++ ([])) w a3 w3 := b3
    refine wp_seq (field_step (e := 20) (d := 265) (TX := 92) (j := 3) (o := 50) ⟨rfl, rfl, rfl, rfl, rfl, ⟨_, rfl⟩, rfl, rfl, rfl, rfl, rfl, rfl⟩ (ReadsG.of1 truth_1) cf_truth (fun b w => by simp [go_sem]) vt_b rfl (by decide) (by decide) (by decide) (by decide) hne b3 fun a4 w4 b4 => ?_)
    show Code.wp _ (Code.region _ _ _) _ a4 w4
    have b4 : BS 515 20 19 rk rb hb w.heap.size (m + 1) 92 st (ksJ 6) [] w a4 w4 := b4
    exact append_step (e := 20) (d := 268) ⟨rfl, rfl, rfl, rfl, rfl, rfl, rfl, rfl, rfl, rfl, rfl, rfl, rfl, rfl, rfl, rfl, rfl, rfl, rfl, rfl, rfl⟩ lt_notice (by decide) (by decide) (by decide) (by decide) hbr hkh hrkn hjl hR hbad b4 fun a' w' st' rows' v' s r => hQ a' w' st' rows' v' s.hd r
  · intro a w m Q hm hH hh
    exact decr_step (c := 19) (d := 254) ⟨rfl, rfl, rfl, rfl, ⟨_, rfl⟩, rfl, rfl, rfl, rfl⟩ (by decide) (by decide) (by decide) (by decide) hm hH hh
set_option maxHeartbeats 4000000 in
set_option maxRecDepth 100000 in
theorem list_order {rk rb hb : Nat} {s0 : Rd} {vals : Nat → Value} {w0 : World} {a : Act} {w : World} {Q : Exit → Act → World → Prop} (hs0 : s0.D.length ≤ 100000000) (hbr : hb ≠ rb) (hrkn : rk ≠ rb) (hkh : rk ≠ hb)
    (hH : HS 515 rk rb hb 7 s0 vals w0 a w) (h : ∀ a' w' vals', HS 515 rk rb hb 8 s0 vals' w0 a' w' → Q .normal a' w') : (listC 7).wp Try.prog Q a w := by
  refine list_all (i := 7) (c := 21) (d := 274) (hs := 284) (by decide) hs0 hbr hrkn hkh ⟨rfl, rfl, rfl, rfl, ⟨_, rfl⟩, rfl, rfl, rfl, rfl⟩ (by decide) (by decide) (by decide) (by decide) ?_ ?_ ?_ hH h
  · intro a w m st Q hH hr hm hh
    exact head_all (c := 21) (d := 276) (head_ops rfl rfl rfl rfl rfl rfl rfl rfl rfl rfl ⟨_, rfl⟩ rfl rfl rfl rfl rfl ⟨_, rfl⟩ rfl rfl rfl rfl rfl rfl rfl rfl rfl rfl) (by decide) (by decide) (by decide) hH hr hm hh
  · intro hcs zs all u a w m st rows v Q hjl hH hR hbad hQ
    have hne : w.heap.size ≠ rb := fun e => absurd hR.rw_.lt (by omega)
    refine wp_seq (alloc_step (e := 22) rfl rfl rfl lt_order (by decide) (by decide) (by decide) (by decide) hH hR.rw_ fun a0 w0 b0 => ?_)
    show Code.wp _ (Code.seq _ _) _ a0 w0
    have b0 : BS 515 22 21 rk rb hb w.heap.size (m + 1) 95 st ([] : List K) ([K.t] ++ ([K.t] ++ ((ksL 8) ++ ([])))) w a0 w0 := b0
    refine wp_seq (field_step (e := 22) (d := 287) (TX := 95) (j := 0) (o := 0) ⟨rfl, rfl, rfl, rfl, rfl, ⟨_, rfl⟩, rfl, rfl, rfl, rfl, rfl, rfl⟩ (ReadsG.of1 text_1) cf_textU (fun b w => by simp [go_sem]) vt_t rfl (by decide) (by decide) (by decide) (by decide) hne b0 fun a1 w1 b1 => ?_)
    show Code.wp _ (Code.seq _ _) _ a1 w1
    have b1 : BS 515 22 21 rk rb hb w.heap.size (m + 1) 95 st (([] : List K) ++ [K.t]) ([K.t] ++ ((ksL 8) ++ ([]))) w a1 w1 := b1
    refine wp_seq (field_step (e := 22) (d := 290) (TX := 95) (j := 1) (o := 1) ⟨rfl, rfl, rfl, rfl, rfl, ⟨_, rfl⟩, rfl, rfl, rfl, rfl, rfl, rfl⟩ (ReadsG.of1 text_1) cf_textU (fun b w => by simp [go_sem]) vt_t rfl (by decide) (by decide) (by decide) (by decide) hne b1 fun a2 w2 b2 => ?_)
    show Code.wp _ (Code.seq _ _) _ a2 w2
    have b2 : BS 515 22 21 rk rb hb w.heap.size (m + 1) 95 st ((([] : List K) ++ [K.t]) ++ [K.t]) ((ksL 8) ++ ([])) w a2 w2 := b2
    refine wp_seq (field_step (e := 22) (d := 293) (TX := 95) (j := 2) (o := 2) ⟨rfl, rfl, rfl, rfl, rfl, ⟨_, rfl⟩, rfl, rfl, rfl, rfl, rfl, rfl⟩ (ReadsG.ofM lines_m) cf_lines (fun b w => by simp [go_sem]) vt_l rfl (by decide) (by decide) (by decide) (by decide) hne b2 fun a3 w3 b3 => ?_)
    show Code.wp _ (Code.region _ _ _) _ a3 w3
    have b3 : BS 515 22 21 rk rb hb w.heap.size (m + 1) 95 st (ksJ 7) [] w a3 w3 := b3
    exact append_step (e := 22) (d := 296) ⟨rfl, rfl, rfl, rfl, rfl, rfl, rfl, rfl, rfl, rfl, rfl, rfl, rfl, rfl, rfl, rfl, rfl, rfl, rfl, rfl, rfl⟩ lt_order (by decide) (by decide) (by decide) (by decide) hbr hkh hrkn hjl hR hbad b3 fun a' w' st' rows' v' s r => hQ a' w' st' rows' v' s.hd r
  · intro a w m Q hm hH hh
    exact decr_step (c := 21) (d := 285) ⟨rfl, rfl, rfl, rfl, ⟨_, rfl⟩, rfl, rfl, rfl, rfl⟩ (by decide) (by decide) (by decide) (by decide) hm hH hh
set_option maxHeartbeats 4000000 in
set_option maxRecDepth 100000 in
theorem list_claim {rk rb hb : Nat} {s0 : Rd} {vals : Nat → Value} {w0 : World} {a : Act} {w : World} {Q : Exit → Act → World → Prop} (hs0 : s0.D.length ≤ 100000000) (hbr : hb ≠ rb) (hrkn : rk ≠ rb) (hkh : rk ≠ hb)
    (hH : HS 515 rk rb hb 8 s0 vals w0 a w) (h : ∀ a' w' vals', HS 515 rk rb hb 9 s0 vals' w0 a' w' → Q .normal a' w') : (listC 8).wp Try.prog Q a w := by
  refine list_all (i := 8) (c := 23) (d := 302) (hs := 312) (by decide) hs0 hbr hrkn hkh ⟨rfl, rfl, rfl, rfl, ⟨_, rfl⟩, rfl, rfl, rfl, rfl⟩ (by decide) (by decide) (by decide) (by decide) ?_ ?_ ?_ hH h
  · intro a w m st Q hH hr hm hh
    exact head_all (c := 23) (d := 304) (head_ops rfl rfl rfl rfl rfl rfl rfl rfl rfl rfl ⟨_, rfl⟩ rfl rfl rfl rfl rfl ⟨_, rfl⟩ rfl rfl rfl rfl rfl rfl rfl rfl rfl rfl) (by decide) (by decide) (by decide) hH hr hm hh
  · intro hcs zs all u a w m st rows v Q hjl hH hR hbad hQ
    have hne : w.heap.size ≠ rb := fun e => absurd hR.rw_.lt (by omega)
    refine wp_seq (alloc_step (e := 24) rfl rfl rfl lt_claim (by decide) (by decide) (by decide) (by decide) hH hR.rw_ fun a0 w0 b0 => ?_)
    show Code.wp _ (Code.seq _ _) _ a0 w0
    have b0 : BS 515 24 23 rk rb hb w.heap.size (m + 1) 97 st ([] : List K) ([K.t] ++ ([K.n] ++ ([K.t, K.t, K.t, K.n] ++ ([K.n] ++ ([K.n] ++ ([])))))) w a0 w0 := b0
    refine wp_seq (field_step (e := 24) (d := 315) (TX := 97) (j := 0) (o := 0) ⟨rfl, rfl, rfl, rfl, rfl, ⟨_, rfl⟩, rfl, rfl, rfl, rfl, rfl, rfl⟩ (ReadsG.of1 text_1) cf_textU (fun b w => by simp [go_sem]) vt_t rfl (by decide) (by decide) (by decide) (by decide) hne b0 fun a1 w1 b1 => ?_)
    show Code.wp _ (Code.seq _ _) _ a1 w1
    have b1 : BS 515 24 23 rk rb hb w.heap.size (m + 1) 97 st (([] : List K) ++ [K.t]) ([K.n] ++ ([K.t, K.t, K.t, K.n] ++ ([K.n] ++ ([K.n] ++ ([]))))) w a1 w1 := b1
    refine wp_seq (field_step (e := 24) (d := 318) (TX := 97) (j := 1) (o := 1) ⟨rfl, rfl, rfl, rfl, rfl, ⟨_, rfl⟩, rfl, rfl, rfl, rfl, rfl, rfl⟩ (ReadsG.of1 num_1) cf_numU (fun b w => by simp [go_sem]) vt_n rfl (by decide) (by decide) (by decide) (by decide) hne b1 fun a2 w2 b2 => ?_)
    show Code.wp _ (Code.seq _ _) _ a2 w2
    have b2 : BS 515 24 23 rk rb hb w.heap.size (m + 1) 97 st ((([] : List K) ++ [K.t]) ++ [K.n]) ([K.t, K.t, K.t, K.n] ++ ([K.n] ++ ([K.n] ++ ([])))) w a2 w2 := b2
    refine wp_seq (field_step (e := 24) (d := 321) (TX := 97) (j := 2) (o := 2) ⟨rfl, rfl, rfl, rfl, rfl, ⟨_, rfl⟩, rfl, rfl, rfl, rfl, rfl, rfl⟩ (ReadsG.ofM key_m) cf_key (fun b w => by simp [go_sem]) vt_k rfl (by decide) (by decide) (by decide) (by decide) hne b2 fun a3 w3 b3 => ?_)
    show Code.wp _ (Code.seq _ _) _ a3 w3
    have b3 : BS 515 24 23 rk rb hb w.heap.size (m + 1) 97 st (((([] : List K) ++ [K.t]) ++ [K.n]) ++ [K.t, K.t, K.t, K.n]) ([K.n] ++ ([K.n] ++ ([]))) w a3 w3 := b3
    refine wp_seq (field_step (e := 24) (d := 324) (TX := 97) (j := 3) (o := 6) ⟨rfl, rfl, rfl, rfl, rfl, ⟨_, rfl⟩, rfl, rfl, rfl, rfl, rfl, rfl⟩ (ReadsG.of1 num_1) cf_numU (fun b w => by simp [go_sem]) vt_n rfl (by decide) (by decide) (by decide) (by decide) hne b3 fun a4 w4 b4 => ?_)
    show Code.wp _ (Code.seq _ _) _ a4 w4
    have b4 : BS 515 24 23 rk rb hb w.heap.size (m + 1) 97 st ((((([] : List K) ++ [K.t]) ++ [K.n]) ++ [K.t, K.t, K.t, K.n]) ++ [K.n]) ([K.n] ++ ([])) w a4 w4 := b4
    refine wp_seq (field_step (e := 24) (d := 327) (TX := 97) (j := 4) (o := 7) ⟨rfl, rfl, rfl, rfl, rfl, ⟨_, rfl⟩, rfl, rfl, rfl, rfl, rfl, rfl⟩ (ReadsG.of1 num_1) cf_numU (fun b w => by simp [go_sem]) vt_n rfl (by decide) (by decide) (by decide) (by decide) hne b4 fun a5 w5 b5 => ?_)
    show Code.wp _ (Code.region _ _ _) _ a5 w5
    have b5 : BS 515 24 23 rk rb hb w.heap.size (m + 1) 97 st (ksJ 8) [] w a5 w5 := b5
    exact append_step (e := 24) (d := 330) ⟨rfl, rfl, rfl, rfl, rfl, rfl, rfl, rfl, rfl, rfl, rfl, rfl, rfl, rfl, rfl, rfl, rfl, rfl, rfl, rfl, rfl⟩ lt_claim (by decide) (by decide) (by decide) (by decide) hbr hkh hrkn hjl hR hbad b5 fun a' w' st' rows' v' s r => hQ a' w' st' rows' v' s.hd r
  · intro a w m Q hm hH hh
    exact decr_step (c := 23) (d := 313) ⟨rfl, rfl, rfl, rfl, ⟨_, rfl⟩, rfl, rfl, rfl, rfl⟩ (by decide) (by decide) (by decide) (by decide) hm hH hh
set_option maxHeartbeats 4000000 in
set_option maxRecDepth 100000 in
theorem list_task {rk rb hb : Nat} {s0 : Rd} {vals : Nat → Value} {w0 : World} {a : Act} {w : World} {Q : Exit → Act → World → Prop} (hs0 : s0.D.length ≤ 100000000) (hbr : hb ≠ rb) (hrkn : rk ≠ rb) (hkh : rk ≠ hb)
    (hH : HS 515 rk rb hb 9 s0 vals w0 a w) (h : ∀ a' w' vals', HS 515 rk rb hb 10 s0 vals' w0 a' w' → Q .normal a' w') : (listC 9).wp Try.prog Q a w := by
  refine list_all (i := 9) (c := 25) (d := 336) (hs := 346) (by decide) hs0 hbr hrkn hkh ⟨rfl, rfl, rfl, rfl, ⟨_, rfl⟩, rfl, rfl, rfl, rfl⟩ (by decide) (by decide) (by decide) (by decide) ?_ ?_ ?_ hH h
  · intro a w m st Q hH hr hm hh
    exact head_all (c := 25) (d := 338) (head_ops rfl rfl rfl rfl rfl rfl rfl rfl rfl rfl ⟨_, rfl⟩ rfl rfl rfl rfl rfl ⟨_, rfl⟩ rfl rfl rfl rfl rfl rfl rfl rfl rfl rfl) (by decide) (by decide) (by decide) hH hr hm hh
  · intro hcs zs all u a w m st rows v Q hjl hH hR hbad hQ
    have hne : w.heap.size ≠ rb := fun e => absurd hR.rw_.lt (by omega)
    refine wp_seq (alloc_step (e := 26) rfl rfl rfl lt_task (by decide) (by decide) (by decide) (by decide) hH hR.rw_ fun a0 w0 b0 => ?_)
    show Code.wp _ (Code.seq _ _) _ a0 w0
    have b0 : BS 515 26 25 rk rb hb w.heap.size (m + 1) 99 st ([] : List K) ([K.n] ++ ([K.n] ++ ([K.t] ++ ([K.n] ++ ([K.t, K.t, K.t, K.n] ++ ([K.t] ++ ([K.n] ++ ([K.t] ++ ([]))))))))) w a0 w0 := b0
    refine wp_seq (field_step (e := 26) (d := 349) (TX := 99) (j := 0) (o := 0) ⟨rfl, rfl, rfl, rfl, rfl, ⟨_, rfl⟩, rfl, rfl, rfl, rfl, rfl, rfl⟩ (ReadsG.of1 num_1) cf_numU (fun b w => by simp [go_sem]) vt_n rfl (by decide) (by decide) (by decide) (by decide) hne b0 fun a1 w1 b1 => ?_)
    show Code.wp _ (Code.seq _ _) _ a1 w1
    have b1 : BS 515 26 25 rk rb hb w.heap.size (m + 1) 99 st (([] : List K) ++ [K.n]) ([K.n] ++ ([K.t] ++ ([K.n] ++ ([K.t, K.t, K.t, K.n] ++ ([K.t] ++ ([K.n] ++ ([K.t] ++ ([])))))))) w a1 w1 := b1
    refine wp_seq (field_step (e := 26) (d := 352) (TX := 99) (j := 1) (o := 1) ⟨rfl, rfl, rfl, rfl, rfl, ⟨_, rfl⟩, rfl, rfl, rfl, rfl, rfl, rfl⟩ (ReadsG.of1 num_1) cf_numU (fun b w => by simp [go_sem]) vt_n rfl (by decide) (by decide) (by decide) (by decide) hne b1 fun a2 w2 b2 => ?_)
    show Code.wp _ (Code.seq _ _) _ a2 w2
    have b2 : BS 515 26 25 rk rb hb w.heap.size (m + 1) 99 st ((([] : List K) ++ [K.n]) ++ [K.n]) ([K.t] ++ ([K.n] ++ ([K.t, K.t, K.t, K.n] ++ ([K.t] ++ ([K.n] ++ ([K.t] ++ ([]))))))) w a2 w2 := b2
    refine wp_seq (field_step (e := 26) (d := 355) (TX := 99) (j := 2) (o := 2) ⟨rfl, rfl, rfl, rfl, rfl, ⟨_, rfl⟩, rfl, rfl, rfl, rfl, rfl, rfl⟩ (ReadsG.of1 text_1) cf_textU (fun b w => by simp [go_sem]) vt_t rfl (by decide) (by decide) (by decide) (by decide) hne b2 fun a3 w3 b3 => ?_)
    show Code.wp _ (Code.seq _ _) _ a3 w3
    have b3 : BS 515 26 25 rk rb hb w.heap.size (m + 1) 99 st (((([] : List K) ++ [K.n]) ++ [K.n]) ++ [K.t]) ([K.n] ++ ([K.t, K.t, K.t, K.n] ++ ([K.t] ++ ([K.n] ++ ([K.t] ++ ([])))))) w a3 w3 := b3
    refine wp_seq (field_step (e := 26) (d := 358) (TX := 99) (j := 3) (o := 3) ⟨rfl, rfl, rfl, rfl, rfl, ⟨_, rfl⟩, rfl, rfl, rfl, rfl, rfl, rfl⟩ (ReadsG.of1 num_1) cf_numU (fun b w => by simp [go_sem]) vt_n rfl (by decide) (by decide) (by decide) (by decide) hne b3 fun a4 w4 b4 => ?_)
    show Code.wp _ (Code.seq _ _) _ a4 w4
    have b4 : BS 515 26 25 rk rb hb w.heap.size (m + 1) 99 st ((((([] : List K) ++ [K.n]) ++ [K.n]) ++ [K.t]) ++ [K.n]) ([K.t, K.t, K.t, K.n] ++ ([K.t] ++ ([K.n] ++ ([K.t] ++ ([]))))) w a4 w4 := b4
    refine wp_seq (field_step (e := 26) (d := 361) (TX := 99) (j := 4) (o := 4) ⟨rfl, rfl, rfl, rfl, rfl, ⟨_, rfl⟩, rfl, rfl, rfl, rfl, rfl, rfl⟩ (ReadsG.ofM key_m) cf_key (fun b w => by simp [go_sem]) vt_k rfl (by decide) (by decide) (by decide) (by decide) hne b4 fun a5 w5 b5 => ?_)
    show Code.wp _ (Code.seq _ _) _ a5 w5
    have b5 : BS 515 26 25 rk rb hb w.heap.size (m + 1) 99 st (((((([] : List K) ++ [K.n]) ++ [K.n]) ++ [K.t]) ++ [K.n]) ++ [K.t, K.t, K.t, K.n]) ([K.t] ++ ([K.n] ++ ([K.t] ++ ([])))) w a5 w5 := b5
    refine wp_seq (field_step (e := 26) (d := 364) (TX := 99) (j := 5) (o := 8) ⟨rfl, rfl, rfl, rfl, rfl, ⟨_, rfl⟩, rfl, rfl, rfl, rfl, rfl, rfl⟩ (ReadsG.of1 text_1) cf_textU (fun b w => by simp [go_sem]) vt_t rfl (by decide) (by decide) (by decide) (by decide) hne b5 fun a6 w6 b6 => ?_)
    show Code.wp _ (Code.seq _ _) _ a6 w6
    have b6 : BS 515 26 25 rk rb hb w.heap.size (m + 1) 99 st ((((((([] : List K) ++ [K.n]) ++ [K.n]) ++ [K.t]) ++ [K.n]) ++ [K.t, K.t, K.t, K.n]) ++ [K.t]) ([K.n] ++ ([K.t] ++ ([]))) w a6 w6 := b6
    refine wp_seq (field_step (e := 26) (d := 367) (TX := 99) (j := 6) (o := 9) ⟨rfl, rfl, rfl, rfl, rfl, ⟨_, rfl⟩, rfl, rfl, rfl, rfl, rfl, rfl⟩ (ReadsG.of1 num_1) cf_numU (fun b w => by simp [go_sem]) vt_n rfl (by decide) (by decide) (by decide) (by decide) hne b6 fun a7 w7 b7 => ?_)
    show Code.wp _ (Code.seq _ _) _ a7 w7
    have b7 : BS 515 26 25 rk rb hb w.heap.size (m + 1) 99 st (((((((([] : List K) ++ [K.n]) ++ [K.n]) ++ [K.t]) ++ [K.n]) ++ [K.t, K.t, K.t, K.n]) ++ [K.t]) ++ [K.n]) ([K.t] ++ ([])) w a7 w7 := b7
    refine wp_seq (field_step (e := 26) (d := 370) (TX := 99) (j := 7) (o := 10) ⟨rfl, rfl, rfl, rfl, rfl, ⟨_, rfl⟩, rfl, rfl, rfl, rfl, rfl, rfl⟩ (ReadsG.of1 text_1) cf_textU (fun b w => by simp [go_sem]) vt_t rfl (by decide) (by decide) (by decide) (by decide) hne b7 fun a8 w8 b8 => ?_)
    show Code.wp _ (Code.region _ _ _) _ a8 w8
    have b8 : BS 515 26 25 rk rb hb w.heap.size (m + 1) 99 st (ksJ 9) [] w a8 w8 := b8
    exact append_step (e := 26) (d := 373) ⟨rfl, rfl, rfl, rfl, rfl, rfl, rfl, rfl, rfl, rfl, rfl, rfl, rfl, rfl, rfl, rfl, rfl, rfl, rfl, rfl, rfl⟩ lt_task (by decide) (by decide) (by decide) (by decide) hbr hkh hrkn hjl hR hbad b8 fun a' w' st' rows' v' s r => hQ a' w' st' rows' v' s.hd r
  · intro a w m Q hm hH hh
    exact decr_step (c := 25) (d := 347) ⟨rfl, rfl, rfl, rfl, ⟨_, rfl⟩, rfl, rfl, rfl, rfl⟩ (by decide) (by decide) (by decide) (by decide) hm hH hh
set_option maxHeartbeats 4000000 in
set_option maxRecDepth 100000 in
theorem list_parcel {rk rb hb : Nat} {s0 : Rd} {vals : Nat → Value} {w0 : World} {a : Act} {w : World} {Q : Exit → Act → World → Prop} (hs0 : s0.D.length ≤ 100000000) (hbr : hb ≠ rb) (hrkn : rk ≠ rb) (hkh : rk ≠ hb)
    (hH : HS 515 rk rb hb 10 s0 vals w0 a w) (h : ∀ a' w' vals', HS 515 rk rb hb 11 s0 vals' w0 a' w' → Q .normal a' w') : (listC 10).wp Try.prog Q a w := by
  refine list_all (i := 10) (c := 27) (d := 379) (hs := 389) (by decide) hs0 hbr hrkn hkh ⟨rfl, rfl, rfl, rfl, ⟨_, rfl⟩, rfl, rfl, rfl, rfl⟩ (by decide) (by decide) (by decide) (by decide) ?_ ?_ ?_ hH h
  · intro a w m st Q hH hr hm hh
    exact head_all (c := 27) (d := 381) (head_ops rfl rfl rfl rfl rfl rfl rfl rfl rfl rfl ⟨_, rfl⟩ rfl rfl rfl rfl rfl ⟨_, rfl⟩ rfl rfl rfl rfl rfl rfl rfl rfl rfl rfl) (by decide) (by decide) (by decide) hH hr hm hh
  · intro hcs zs all u a w m st rows v Q hjl hH hR hbad hQ
    have hne : w.heap.size ≠ rb := fun e => absurd hR.rw_.lt (by omega)
    refine wp_seq (alloc_step (e := 28) rfl rfl rfl lt_parcel (by decide) (by decide) (by decide) (by decide) hH hR.rw_ fun a0 w0 b0 => ?_)
    show Code.wp _ (Code.seq _ _) _ a0 w0
    have b0 : BS 515 28 27 rk rb hb w.heap.size (m + 1) 101 st ([] : List K) ([K.t] ++ ([K.t] ++ ([]))) w a0 w0 := b0
    refine wp_seq (field_step (e := 28) (d := 392) (TX := 101) (j := 0) (o := 0) ⟨rfl, rfl, rfl, rfl, rfl, ⟨_, rfl⟩, rfl, rfl, rfl, rfl, rfl, rfl⟩ (ReadsG.of1 text_1) cf_textU (fun b w => by simp [go_sem]) vt_t rfl (by decide) (by decide) (by decide) (by decide) hne b0 fun a1 w1 b1 => ?_)
    show Code.wp _ (Code.seq _ _) _ a1 w1
    have b1 : BS 515 28 27 rk rb hb w.heap.size (m + 1) 101 st (([] : List K) ++ [K.t]) ([K.t] ++ ([])) w a1 w1 := b1
    refine wp_seq (field_step (e := 28) (d := 395) (TX := 101) (j := 1) (o := 1) ⟨rfl, rfl, rfl, rfl, rfl, ⟨_, rfl⟩, rfl, rfl, rfl, rfl, rfl, rfl⟩ (ReadsG.of1 text_1) cf_textU (fun b w => by simp [go_sem]) vt_t rfl (by decide) (by decide) (by decide) (by decide) hne b1 fun a2 w2 b2 => ?_)
    show Code.wp _ (Code.region _ _ _) _ a2 w2
    have b2 : BS 515 28 27 rk rb hb w.heap.size (m + 1) 101 st (ksJ 10) [] w a2 w2 := b2
    exact append_step (e := 28) (d := 398) ⟨rfl, rfl, rfl, rfl, rfl, rfl, rfl, rfl, rfl, rfl, rfl, rfl, rfl, rfl, rfl, rfl, rfl, rfl, rfl, rfl, rfl⟩ lt_parcel (by decide) (by decide) (by decide) (by decide) hbr hkh hrkn hjl hR hbad b2 fun a' w' st' rows' v' s r => hQ a' w' st' rows' v' s.hd r
  · intro a w m Q hm hH hh
    exact decr_step (c := 27) (d := 390) ⟨rfl, rfl, rfl, rfl, ⟨_, rfl⟩, rfl, rfl, rfl, rfl⟩ (by decide) (by decide) (by decide) (by decide) hm hH hh
set_option maxHeartbeats 4000000 in
set_option maxRecDepth 100000 in
theorem list_sent {rk rb hb : Nat} {s0 : Rd} {vals : Nat → Value} {w0 : World} {a : Act} {w : World} {Q : Exit → Act → World → Prop} (hs0 : s0.D.length ≤ 100000000) (hbr : hb ≠ rb) (hrkn : rk ≠ rb) (hkh : rk ≠ hb)
    (hH : HS 515 rk rb hb 11 s0 vals w0 a w) (h : ∀ a' w' vals', HS 515 rk rb hb 12 s0 vals' w0 a' w' → Q .normal a' w') : (listC 11).wp Try.prog Q a w := by
  refine list_all (i := 11) (c := 29) (d := 404) (hs := 414) (by decide) hs0 hbr hrkn hkh ⟨rfl, rfl, rfl, rfl, ⟨_, rfl⟩, rfl, rfl, rfl, rfl⟩ (by decide) (by decide) (by decide) (by decide) ?_ ?_ ?_ hH h
  · intro a w m st Q hH hr hm hh
    exact head_all (c := 29) (d := 406) (head_ops rfl rfl rfl rfl rfl rfl rfl rfl rfl rfl ⟨_, rfl⟩ rfl rfl rfl rfl rfl ⟨_, rfl⟩ rfl rfl rfl rfl rfl rfl rfl rfl rfl rfl) (by decide) (by decide) (by decide) hH hr hm hh
  · intro hcs zs all u a w m st rows v Q hjl hH hR hbad hQ
    have hne : w.heap.size ≠ rb := fun e => absurd hR.rw_.lt (by omega)
    refine wp_seq (alloc_step (e := 30) rfl rfl rfl lt_sent (by decide) (by decide) (by decide) (by decide) hH hR.rw_ fun a0 w0 b0 => ?_)
    show Code.wp _ (Code.seq _ _) _ a0 w0
    have b0 : BS 515 30 29 rk rb hb w.heap.size (m + 1) 103 st ([] : List K) ([K.t] ++ ([K.t] ++ ([K.t] ++ ([K.n] ++ ([K.n] ++ ([])))))) w a0 w0 := b0
    refine wp_seq (field_step (e := 30) (d := 417) (TX := 103) (j := 0) (o := 0) ⟨rfl, rfl, rfl, rfl, rfl, ⟨_, rfl⟩, rfl, rfl, rfl, rfl, rfl, rfl⟩ (ReadsG.of1 text_1) cf_textU (fun b w => by simp [go_sem]) vt_t rfl (by decide) (by decide) (by decide) (by decide) hne b0 fun a1 w1 b1 => ?_)
    show Code.wp _ (Code.seq _ _) _ a1 w1
    have b1 : BS 515 30 29 rk rb hb w.heap.size (m + 1) 103 st (([] : List K) ++ [K.t]) ([K.t] ++ ([K.t] ++ ([K.n] ++ ([K.n] ++ ([]))))) w a1 w1 := b1
    refine wp_seq (field_step (e := 30) (d := 420) (TX := 103) (j := 1) (o := 1) ⟨rfl, rfl, rfl, rfl, rfl, ⟨_, rfl⟩, rfl, rfl, rfl, rfl, rfl, rfl⟩ (ReadsG.of1 text_1) cf_textU (fun b w => by simp [go_sem]) vt_t rfl (by decide) (by decide) (by decide) (by decide) hne b1 fun a2 w2 b2 => ?_)
    show Code.wp _ (Code.seq _ _) _ a2 w2
    have b2 : BS 515 30 29 rk rb hb w.heap.size (m + 1) 103 st ((([] : List K) ++ [K.t]) ++ [K.t]) ([K.t] ++ ([K.n] ++ ([K.n] ++ ([])))) w a2 w2 := b2
    refine wp_seq (field_step (e := 30) (d := 423) (TX := 103) (j := 2) (o := 2) ⟨rfl, rfl, rfl, rfl, rfl, ⟨_, rfl⟩, rfl, rfl, rfl, rfl, rfl, rfl⟩ (ReadsG.of1 text_1) cf_textU (fun b w => by simp [go_sem]) vt_t rfl (by decide) (by decide) (by decide) (by decide) hne b2 fun a3 w3 b3 => ?_)
    show Code.wp _ (Code.seq _ _) _ a3 w3
    have b3 : BS 515 30 29 rk rb hb w.heap.size (m + 1) 103 st (((([] : List K) ++ [K.t]) ++ [K.t]) ++ [K.t]) ([K.n] ++ ([K.n] ++ ([]))) w a3 w3 := b3
    refine wp_seq (field_step (e := 30) (d := 426) (TX := 103) (j := 3) (o := 3) ⟨rfl, rfl, rfl, rfl, rfl, ⟨_, rfl⟩, rfl, rfl, rfl, rfl, rfl, rfl⟩ (ReadsG.of1 num_1) cf_numU (fun b w => by simp [go_sem]) vt_n rfl (by decide) (by decide) (by decide) (by decide) hne b3 fun a4 w4 b4 => ?_)
    show Code.wp _ (Code.seq _ _) _ a4 w4
    have b4 : BS 515 30 29 rk rb hb w.heap.size (m + 1) 103 st ((((([] : List K) ++ [K.t]) ++ [K.t]) ++ [K.t]) ++ [K.n]) ([K.n] ++ ([])) w a4 w4 := b4
    refine wp_seq (field_step (e := 30) (d := 429) (TX := 103) (j := 4) (o := 4) ⟨rfl, rfl, rfl, rfl, rfl, ⟨_, rfl⟩, rfl, rfl, rfl, rfl, rfl, rfl⟩ (ReadsG.of1 num_1) cf_numU (fun b w => by simp [go_sem]) vt_n rfl (by decide) (by decide) (by decide) (by decide) hne b4 fun a5 w5 b5 => ?_)
    show Code.wp _ (Code.region _ _ _) _ a5 w5
    have b5 : BS 515 30 29 rk rb hb w.heap.size (m + 1) 103 st (ksJ 11) [] w a5 w5 := b5
    exact append_step (e := 30) (d := 432) ⟨rfl, rfl, rfl, rfl, rfl, rfl, rfl, rfl, rfl, rfl, rfl, rfl, rfl, rfl, rfl, rfl, rfl, rfl, rfl, rfl, rfl⟩ lt_sent (by decide) (by decide) (by decide) (by decide) hbr hkh hrkn hjl hR hbad b5 fun a' w' st' rows' v' s r => hQ a' w' st' rows' v' s.hd r
  · intro a w m Q hm hH hh
    exact decr_step (c := 29) (d := 415) ⟨rfl, rfl, rfl, rfl, ⟨_, rfl⟩, rfl, rfl, rfl, rfl⟩ (by decide) (by decide) (by decide) (by decide) hm hH hh
set_option maxHeartbeats 4000000 in
set_option maxRecDepth 100000 in
theorem list_counted {rk rb hb : Nat} {s0 : Rd} {vals : Nat → Value} {w0 : World} {a : Act} {w : World} {Q : Exit → Act → World → Prop} (hs0 : s0.D.length ≤ 100000000) (hbr : hb ≠ rb) (hrkn : rk ≠ rb) (hkh : rk ≠ hb)
    (hH : HS 515 rk rb hb 12 s0 vals w0 a w) (h : ∀ a' w' vals', HS 515 rk rb hb 13 s0 vals' w0 a' w' → Q .normal a' w') : (listC 12).wp Try.prog Q a w := by
  refine list_all (i := 12) (c := 31) (d := 438) (hs := 448) (by decide) hs0 hbr hrkn hkh ⟨rfl, rfl, rfl, rfl, ⟨_, rfl⟩, rfl, rfl, rfl, rfl⟩ (by decide) (by decide) (by decide) (by decide) ?_ ?_ ?_ hH h
  · intro a w m st Q hH hr hm hh
    exact head_all (c := 31) (d := 440) (head_ops rfl rfl rfl rfl rfl rfl rfl rfl rfl rfl ⟨_, rfl⟩ rfl rfl rfl rfl rfl ⟨_, rfl⟩ rfl rfl rfl rfl rfl rfl rfl rfl rfl rfl) (by decide) (by decide) (by decide) hH hr hm hh
  · intro hcs zs all u a w m st rows v Q hjl hH hR hbad hQ
    have hne : w.heap.size ≠ rb := fun e => absurd hR.rw_.lt (by omega)
    refine wp_seq (alloc_step (e := 32) rfl rfl rfl lt_counted (by decide) (by decide) (by decide) (by decide) hH hR.rw_ fun a0 w0 b0 => ?_)
    show Code.wp _ (Code.seq _ _) _ a0 w0
    have b0 : BS 515 32 31 rk rb hb w.heap.size (m + 1) 105 st ([] : List K) ([K.t, K.t, K.t, K.n] ++ ([K.n] ++ ([]))) w a0 w0 := b0
    refine wp_seq (field_step (e := 32) (d := 451) (TX := 105) (j := 0) (o := 0) ⟨rfl, rfl, rfl, rfl, rfl, ⟨_, rfl⟩, rfl, rfl, rfl, rfl, rfl, rfl⟩ (ReadsG.ofM key_m) cf_key (fun b w => by simp [go_sem]) vt_k rfl (by decide) (by decide) (by decide) (by decide) hne b0 fun a1 w1 b1 => ?_)
    show Code.wp _ (Code.seq _ _) _ a1 w1
    have b1 : BS 515 32 31 rk rb hb w.heap.size (m + 1) 105 st (([] : List K) ++ [K.t, K.t, K.t, K.n]) ([K.n] ++ ([])) w a1 w1 := b1
    refine wp_seq (field_step (e := 32) (d := 454) (TX := 105) (j := 1) (o := 4) ⟨rfl, rfl, rfl, rfl, rfl, ⟨_, rfl⟩, rfl, rfl, rfl, rfl, rfl, rfl⟩ (ReadsG.of1 num_1) cf_numU (fun b w => by simp [go_sem]) vt_n rfl (by decide) (by decide) (by decide) (by decide) hne b1 fun a2 w2 b2 => ?_)
    show Code.wp _ (Code.region _ _ _) _ a2 w2
    have b2 : BS 515 32 31 rk rb hb w.heap.size (m + 1) 105 st (ksJ 12) [] w a2 w2 := b2
    exact append_step (e := 32) (d := 457) ⟨rfl, rfl, rfl, rfl, rfl, rfl, rfl, rfl, rfl, rfl, rfl, rfl, rfl, rfl, rfl, rfl, rfl, rfl, rfl, rfl, rfl⟩ lt_counted (by decide) (by decide) (by decide) (by decide) hbr hkh hrkn hjl hR hbad b2 fun a' w' st' rows' v' s r => hQ a' w' st' rows' v' s.hd r
  · intro a w m Q hm hH hh
    exact decr_step (c := 31) (d := 449) ⟨rfl, rfl, rfl, rfl, ⟨_, rfl⟩, rfl, rfl, rfl, rfl⟩ (by decide) (by decide) (by decide) (by decide) hm hH hh
set_option maxHeartbeats 4000000 in
set_option maxRecDepth 100000 in
theorem list_total {rk rb hb : Nat} {s0 : Rd} {vals : Nat → Value} {w0 : World} {a : Act} {w : World} {Q : Exit → Act → World → Prop} (hs0 : s0.D.length ≤ 100000000) (hbr : hb ≠ rb) (hrkn : rk ≠ rb) (hkh : rk ≠ hb)
    (hH : HS 515 rk rb hb 13 s0 vals w0 a w) (h : ∀ a' w' vals', HS 515 rk rb hb 14 s0 vals' w0 a' w' → Q .normal a' w') : (listC 13).wp Try.prog Q a w := by
  refine list_all (i := 13) (c := 33) (d := 463) (hs := 473) (by decide) hs0 hbr hrkn hkh ⟨rfl, rfl, rfl, rfl, ⟨_, rfl⟩, rfl, rfl, rfl, rfl⟩ (by decide) (by decide) (by decide) (by decide) ?_ ?_ ?_ hH h
  · intro a w m st Q hH hr hm hh
    exact head_all (c := 33) (d := 465) (head_ops rfl rfl rfl rfl rfl rfl rfl rfl rfl rfl ⟨_, rfl⟩ rfl rfl rfl rfl rfl ⟨_, rfl⟩ rfl rfl rfl rfl rfl rfl rfl rfl rfl rfl) (by decide) (by decide) (by decide) hH hr hm hh
  · intro hcs zs all u a w m st rows v Q hjl hH hR hbad hQ
    have hne : w.heap.size ≠ rb := fun e => absurd hR.rw_.lt (by omega)
    refine wp_seq (alloc_step (e := 34) rfl rfl rfl lt_total (by decide) (by decide) (by decide) (by decide) hH hR.rw_ fun a0 w0 b0 => ?_)
    show Code.wp _ (Code.seq _ _) _ a0 w0
    have b0 : BS 515 34 33 rk rb hb w.heap.size (m + 1) 107 st ([] : List K) ([K.t] ++ ([K.t] ++ ([K.n] ++ ([K.n] ++ ([K.n] ++ ([K.n] ++ ([]))))))) w a0 w0 := b0
    refine wp_seq (field_step (e := 34) (d := 476) (TX := 107) (j := 0) (o := 0) ⟨rfl, rfl, rfl, rfl, rfl, ⟨_, rfl⟩, rfl, rfl, rfl, rfl, rfl, rfl⟩ (ReadsG.of1 text_1) cf_textU (fun b w => by simp [go_sem]) vt_t rfl (by decide) (by decide) (by decide) (by decide) hne b0 fun a1 w1 b1 => ?_)
    show Code.wp _ (Code.seq _ _) _ a1 w1
    have b1 : BS 515 34 33 rk rb hb w.heap.size (m + 1) 107 st (([] : List K) ++ [K.t]) ([K.t] ++ ([K.n] ++ ([K.n] ++ ([K.n] ++ ([K.n] ++ ([])))))) w a1 w1 := b1
    refine wp_seq (field_step (e := 34) (d := 479) (TX := 107) (j := 1) (o := 1) ⟨rfl, rfl, rfl, rfl, rfl, ⟨_, rfl⟩, rfl, rfl, rfl, rfl, rfl, rfl⟩ (ReadsG.of1 text_1) cf_textU (fun b w => by simp [go_sem]) vt_t rfl (by decide) (by decide) (by decide) (by decide) hne b1 fun a2 w2 b2 => ?_)
    show Code.wp _ (Code.seq _ _) _ a2 w2
    have b2 : BS 515 34 33 rk rb hb w.heap.size (m + 1) 107 st ((([] : List K) ++ [K.t]) ++ [K.t]) ([K.n] ++ ([K.n] ++ ([K.n] ++ ([K.n] ++ ([]))))) w a2 w2 := b2
    refine wp_seq (field_step (e := 34) (d := 482) (TX := 107) (j := 2) (o := 2) ⟨rfl, rfl, rfl, rfl, rfl, ⟨_, rfl⟩, rfl, rfl, rfl, rfl, rfl, rfl⟩ (ReadsG.of1 num_1) cf_numU (fun b w => by simp [go_sem]) vt_n rfl (by decide) (by decide) (by decide) (by decide) hne b2 fun a3 w3 b3 => ?_)
    show Code.wp _ (Code.seq _ _) _ a3 w3
    have b3 : BS 515 34 33 rk rb hb w.heap.size (m + 1) 107 st (((([] : List K) ++ [K.t]) ++ [K.t]) ++ [K.n]) ([K.n] ++ ([K.n] ++ ([K.n] ++ ([])))) w a3 w3 := b3
    refine wp_seq (field_step (e := 34) (d := 485) (TX := 107) (j := 3) (o := 3) ⟨rfl, rfl, rfl, rfl, rfl, ⟨_, rfl⟩, rfl, rfl, rfl, rfl, rfl, rfl⟩ (ReadsG.of1 num_1) cf_numU (fun b w => by simp [go_sem]) vt_n rfl (by decide) (by decide) (by decide) (by decide) hne b3 fun a4 w4 b4 => ?_)
    show Code.wp _ (Code.seq _ _) _ a4 w4
    have b4 : BS 515 34 33 rk rb hb w.heap.size (m + 1) 107 st ((((([] : List K) ++ [K.t]) ++ [K.t]) ++ [K.n]) ++ [K.n]) ([K.n] ++ ([K.n] ++ ([]))) w a4 w4 := b4
    refine wp_seq (field_step (e := 34) (d := 488) (TX := 107) (j := 4) (o := 4) ⟨rfl, rfl, rfl, rfl, rfl, ⟨_, rfl⟩, rfl, rfl, rfl, rfl, rfl, rfl⟩ (ReadsG.of1 num_1) cf_numU (fun b w => by simp [go_sem]) vt_n rfl (by decide) (by decide) (by decide) (by decide) hne b4 fun a5 w5 b5 => ?_)
    show Code.wp _ (Code.seq _ _) _ a5 w5
    have b5 : BS 515 34 33 rk rb hb w.heap.size (m + 1) 107 st (((((([] : List K) ++ [K.t]) ++ [K.t]) ++ [K.n]) ++ [K.n]) ++ [K.n]) ([K.n] ++ ([])) w a5 w5 := b5
    refine wp_seq (field_step (e := 34) (d := 491) (TX := 107) (j := 5) (o := 5) ⟨rfl, rfl, rfl, rfl, rfl, ⟨_, rfl⟩, rfl, rfl, rfl, rfl, rfl, rfl⟩ (ReadsG.of1 num_1) cf_numU (fun b w => by simp [go_sem]) vt_n rfl (by decide) (by decide) (by decide) (by decide) hne b5 fun a6 w6 b6 => ?_)
    show Code.wp _ (Code.region _ _ _) _ a6 w6
    have b6 : BS 515 34 33 rk rb hb w.heap.size (m + 1) 107 st (ksJ 13) [] w a6 w6 := b6
    exact append_step (e := 34) (d := 494) ⟨rfl, rfl, rfl, rfl, rfl, rfl, rfl, rfl, rfl, rfl, rfl, rfl, rfl, rfl, rfl, rfl, rfl, rfl, rfl, rfl, rfl⟩ lt_total (by decide) (by decide) (by decide) (by decide) hbr hkh hrkn hjl hR hbad b6 fun a' w' st' rows' v' s r => hQ a' w' st' rows' v' s.hd r
  · intro a w m Q hm hH hh
    exact decr_step (c := 33) (d := 474) ⟨rfl, rfl, rfl, rfl, ⟨_, rfl⟩, rfl, rfl, rfl, rfl⟩ (by decide) (by decide) (by decide) (by decide) hm hH hh
end Go.Proofs.Ytgdoodeibcfcjaa.Wire
