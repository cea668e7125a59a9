/- stevedorekeep.Lent, whole. Printed by blent3.py. -/
import Derived.Test.YtgdoodeibcfcjaaGreatBLentH
set_option linter.unusedVariables false
set_option linter.unusedSimpArgs false
namespace Go.Proofs.YtgdoodeibcfcjaaGreat.Wire
open Go.RowKit Go.Proofs.YtgdoodeibcfcjaaGreat.NumsPure Go.Proofs.YtgdoodeibcfcjaaGreat.CPure Go.Proofs.YtgdoodeibcfcjaaGreat.Own
def zsL : List Value := [.slice none 0 0, .slice none 0 0, .slice none 0 0, .slice none 0 0, .slice none 0 0, .slice none 0 0, .slice none 0 0, .slice none 0 0, .slice none 0 0, .slice none 0 0, .slice none 0 0, .slice none 0 0, .slice none 0 0, .slice none 0 0, .int .i64 0]
theorem info_houseL : (Tryz.prog.info? 37).map (fun i => (i.zero, i.size, i.bytes)) = some (some (.agg zsL.toArray), 15, 344) := by kernel_rfl
/-- A lent house. -/
structure LentA (w : World) (cs : List Value) (R : Nat → List (List Value)) (z : Int) : Prop where
  len : cs.length = 15
  row : ∀ j, j < 14 → ∃ A c, cs[j]? = some (.slice A (R j).length c) ∧ RowA w A (szJ j) (ksJ j) c (R j ++ [behJ j])
  num : cs[14]? = some (.int .i64 z)
theorem RowA.head {w : World} {A : Option Addr} {k c : Nat} {ks : List K} {rows : List (List Value)} {y : List Value} (h : RowA w A k ks c (rows ++ [y])) : RowA w A k ks c rows := by
  refine ⟨fun hl => ?_, ?_, fun x hx => h.fits x (List.mem_append_left _ hx), ?_⟩
  · obtain ⟨ad, e, hb, hc⟩ := h.at_ (by simp)
    exact ⟨ad, e, hb, fun i x hx m u hu => hc i x (by rw [List.getElem?_append_left (List.getElem?_eq_some_iff.1 hx).1]; exact hx) m u hu⟩
  · have := h.cap
    simp at this
    omega
  · have := h.few
    simp at this
    omega
theorem LentA.house {w : World} {cs : List Value} {R : Nat → List (List Value)} {z : Int} (h : LentA w cs R z) : HouseA w cs R z :=
  ⟨h.len, fun j hj => by
    obtain ⟨A, c, e, hr⟩ := h.row j hj
    exact ⟨A, c, e, hr.head⟩, h.num⟩
theorem LentA.below {w w' : World} {cs : List Value} {R : Nat → List (List Value)} {z : Int} (h : LentA w cs R z) (b : Below w.heap.size w w') : LentA w' cs R z :=
  ⟨h.len, fun j hj => by
    obtain ⟨A, c, e, hr⟩ := h.row j hj
    exact ⟨A, c, e, hr.below b⟩, h.num⟩
noncomputable def bodyLe : Code := (Tryz.f7.body).getD .skip
def seqRL : Code → Code
  | .seq _ b => b
  | c => c
def seqLL : Code → Code
  | .seq a _ => a
  | c => c
def dropL : Nat → Code → Code
  | 0, c => c
  | n + 1, c => dropL n (seqRL c)
theorem res_Le {a : Act} {w : World} {rk : Nat} {cs : List Value} (e2 : a.eval (.tmp 2) = .pointer (some ⟨rk, 0, none⟩)) (hk : Cs rk 37 cs w) (hl : cs.length = 15) : (results Tryz.f7 a.tmps).run Tryz.prog w = .ok (.agg cs.toArray) w := by
  have hv : (loadVar 37 ⟨rk, 0, none⟩).run Tryz.prog w = .ok (.agg cs.toArray) w := run_loadVar_at w ⟨rk, 0, none⟩ 37 cs _ (fun q v hv => by
    rw [add0B, hk.cell]; exact hv) Tryz.underlying37 rfl (by rw [hl]; exact size_ofP info_houseL)
  have er : Tryz.f7.results = #[.cell 2 37] := rfl
  unfold results
  rw [er]
  have e2' : a.tmps[2]?.getD undef = .pointer (some ⟨rk, 0, none⟩) := by rw [← e2]; simp [Act.eval, Array.getD_eq_getD_getElem?]
  simp [Sem.run_bind, e2', asAddr, hv]
theorem pL_0 : dropL 0 bodyLe = .seq (seqLL (dropL 0 bodyLe)) (dropL 1 bodyLe) := rfl
theorem pL_1 : dropL 1 bodyLe = .seq (seqLL (dropL 1 bodyLe)) (dropL 2 bodyLe) := rfl
theorem pL_2 : dropL 2 bodyLe = .seq (seqLL (dropL 2 bodyLe)) (dropL 3 bodyLe) := rfl
theorem pL_3 : dropL 3 bodyLe = .seq (seqLL (dropL 3 bodyLe)) (dropL 4 bodyLe) := rfl
theorem pL_4 : dropL 4 bodyLe = .seq (seqLL (dropL 4 bodyLe)) (dropL 5 bodyLe) := rfl
theorem pL_5 : dropL 5 bodyLe = .seq (seqLL (dropL 5 bodyLe)) (dropL 6 bodyLe) := rfl
theorem pL_6 : dropL 6 bodyLe = .seq (seqLL (dropL 6 bodyLe)) (dropL 7 bodyLe) := rfl
theorem pL_7 : dropL 7 bodyLe = .seq (seqLL (dropL 7 bodyLe)) (dropL 8 bodyLe) := rfl
theorem pL_8 : dropL 8 bodyLe = .seq (seqLL (dropL 8 bodyLe)) (dropL 9 bodyLe) := rfl
theorem pL_9 : dropL 9 bodyLe = .seq (seqLL (dropL 9 bodyLe)) (dropL 10 bodyLe) := rfl
theorem pL_10 : dropL 10 bodyLe = .seq (seqLL (dropL 10 bodyLe)) (dropL 11 bodyLe) := rfl
theorem pL_11 : dropL 11 bodyLe = .seq (seqLL (dropL 11 bodyLe)) (dropL 12 bodyLe) := rfl
theorem pL_12 : dropL 12 bodyLe = .seq (seqLL (dropL 12 bodyLe)) (dropL 13 bodyLe) := rfl
theorem pL_13 : dropL 13 bodyLe = .seq (seqLL (dropL 13 bodyLe)) (dropL 14 bodyLe) := rfl
theorem pL_14 : dropL 14 bodyLe = .seq (seqLL (dropL 14 bodyLe)) (dropL 15 bodyLe) := rfl
theorem pL_15 : dropL 15 bodyLe = .seq (seqLL (dropL 15 bodyLe)) (dropL 16 bodyLe) := rfl

set_option maxHeartbeats 4000000 in
set_option maxRecDepth 100000 in
theorem Lent_any {vs : List Value} {R : Nat → List (List Value)} {z : Int} {w : World} (h : HouseA w vs R z) (hf : ∀ j, j < 14 → (R j).length ≤ 2000000) : Calls Tryz.prog 7 #[.agg vs.toArray] w fun e w' => ∃ cs : List Value, e = .returned (.agg cs.toArray) ∧ LentA w' cs R z ∧ Below w.heap.size w w' := by
  refine calls_of_wp (c := dropL 0 bodyLe) Tryz.func7 rfl ?_
  obtain ⟨a, ha⟩ : ∃ a : Act, a = { tmps := #[.agg vs.toArray] ++ Array.replicate (Tryz.f7.ntmps - (#[Value.agg vs.toArray] : Array Value).size) undef, defers := [] } := ⟨_, rfl⟩
  rw [← ha]
  have z1 : a.tmps.size = 74 := by rw [ha]; simp [Tryz.ntmps7]
  have z2 : a.defers = [] := by rw [ha]
  have z3 : a.eval (.tmp 0) = .agg vs.toArray := by rw [ha]; simp [Act.eval]
  clear ha
  rw [pL_0]
  refine wp_seq (wp_region_list ?_)
  show wpList _ _ _ [_, _] a w
  refine Great.wpList_allocTo rfl (some 1) rfl _ _ (run_boxL rfl z3 w) ?_
  have v1 : (a.put (some 1) (.pointer (some ⟨w.heap.size, 0, none⟩))).eval (.tmp 1) = .pointer (some ⟨w.heap.size, 0, none⟩) := put_same _ (by rw [z1]; decide)
  have x1 := (put_size a (some 1) (.pointer (some ⟨w.heap.size, 0, none⟩))).trans z1
  have q1 := (put_defers a (some 1) (.pointer (some ⟨w.heap.size, 0, none⟩))).trans z2
  generalize a.put (some 1) (.pointer (some ⟨w.heap.size, 0, none⟩)) = a1 at v1 x1 q1
  have c0 := cs_alloc w vs.toArray 37 vs rfl
  have b0 := alloc_below w (.cells vs.toArray 37)
  have n0 : (w.alloc (.cells vs.toArray 37)).heap.size = w.heap.size + 1 := by simp
  generalize w.alloc (.cells vs.toArray 37) = w1 at c0 b0 n0
  have hrun : ∀ o : Oper, o.op = .alloc 37 → (execOp a1.eval o).run Tryz.prog w1 = .ok (.value (.pointer (some ⟨w1.heap.size, 0, none⟩))) (w1.alloc (.cells zsL.toArray 37)) := fun o ho => by
    unfold execOp
    simp [ho, Instr.alloc, Sem.run_bind, zero_ofP info_houseL w1, newVar, newRow, Value.cells, go_sem]
  refine Great.wpList_allocTo rfl (some 2) rfl _ _ (hrun _ rfl) (wpList_nil ?_)
  have v2 : (a1.put (some 2) (.pointer (some ⟨w1.heap.size, 0, none⟩))).eval (.tmp 2) = .pointer (some ⟨w1.heap.size, 0, none⟩) := put_same _ (by rw [x1]; decide)
  have v2b : (a1.put (some 2) (.pointer (some ⟨w1.heap.size, 0, none⟩))).eval (.tmp 1) = .pointer (some ⟨w.heap.size, 0, none⟩) := (put_other _ (by decide)).trans v1
  have x2 := (put_size a1 (some 2) (.pointer (some ⟨w1.heap.size, 0, none⟩))).trans x1
  have q2 := (put_defers a1 (some 2) (.pointer (some ⟨w1.heap.size, 0, none⟩))).trans q1
  show Code.wp _ (dropL 1 bodyLe) _ (a1.put (some 2) (.pointer (some ⟨w1.heap.size, 0, none⟩))) _
  generalize a1.put (some 2) (.pointer (some ⟨w1.heap.size, 0, none⟩)) = a2 at v2 v2b x2 q2
  have c1 := cs_alloc w1 zsL.toArray 37 zsL rfl
  have b1 := alloc_below w1 (.cells zsL.toArray 37)
  have n1 : (w1.alloc (.cells zsL.toArray 37)).heap.size = w1.heap.size + 1 := by simp
  have c0' := c0.keep (b1.block _ c0.lt)
  generalize w1.alloc (.cells zsL.toArray 37) = W at c1 b1 n1 c0'
  obtain ⟨hb, hhb⟩ : ∃ hb, hb = w.heap.size := ⟨_, rfl⟩
  obtain ⟨rk, hrk⟩ : ∃ rk, rk = w1.heap.size := ⟨_, rfl⟩
  rw [← hhb] at v2b c0' n0
  rw [← hrk] at v2 c1 n0
  have hne : rk ≠ hb := by omega
  have hbW : hb < W.heap.size := by omega
  have hb0 : w.heap.size ≤ hb := by omega
  have hrkW : rk < W.heap.size := by omega
  have hB0 : Below w.heap.size w W := b0.trans (b1.mono b0.size)
  have h0 : LeS w W hb rk vs R 0 vs a2 W := ⟨x2, q2, v2b, v2, c0', h.len, ⟨zsL, c1, rfl⟩, fun q _ => rfl, fun q hq => absurd hq (by omega), hB0, Nat.le_refl _⟩
  clear v2 v2b x2 q2 v1 x1 q1 c0 c0' c1 b0 b1 hrun
  rw [pL_1]
  refine wp_seq (le_step (j := 0) (d := 3) ⟨⟨rfl, rfl, rfl⟩, ⟨rfl, rfl, rfl⟩, ⟨rfl, rfl, rfl⟩, ⟨rfl, ⟨_, rfl⟩, rfl⟩, ⟨rfl, rfl, rfl⟩, ⟨rfl, rfl, rfl⟩⟩ (by decide) (by decide) (by decide) lb_item rfl (by kernel_rfl) bd_item (fun vals w => by simp [go_sem]) (fun hr hl => lent_item hr hl) (h.row 0 (by decide)) (hf 0 (by decide)) hne hbW hb0 hrkW h0 fun e0 u0 cs0 h0 => ?_)
  show Code.wp _ (dropL 2 bodyLe) _ e0 u0
  rw [pL_2]
  refine wp_seq (le_step (j := 1) (d := 8) ⟨⟨rfl, rfl, rfl⟩, ⟨rfl, rfl, rfl⟩, ⟨rfl, rfl, rfl⟩, ⟨rfl, ⟨_, rfl⟩, rfl⟩, ⟨rfl, rfl, rfl⟩, ⟨rfl, rfl, rfl⟩⟩ (by decide) (by decide) (by decide) lb_lot rfl (by kernel_rfl) bd_lot (fun vals w => by simp [go_sem]) (fun hr hl => lent_lot hr hl) (h.row 1 (by decide)) (hf 1 (by decide)) hne hbW hb0 hrkW h0 fun e1 u1 cs1 h0 => ?_)
  show Code.wp _ (dropL 3 bodyLe) _ e1 u1
  rw [pL_3]
  refine wp_seq (le_step (j := 2) (d := 13) ⟨⟨rfl, rfl, rfl⟩, ⟨rfl, rfl, rfl⟩, ⟨rfl, rfl, rfl⟩, ⟨rfl, ⟨_, rfl⟩, rfl⟩, ⟨rfl, rfl, rfl⟩, ⟨rfl, rfl, rfl⟩⟩ (by decide) (by decide) (by decide) lb_zone rfl (by kernel_rfl) bd_zone (fun vals w => by simp [go_sem]) (fun hr hl => lent_zone hr hl) (h.row 2 (by decide)) (hf 2 (by decide)) hne hbW hb0 hrkW h0 fun e2 u2 cs2 h0 => ?_)
  show Code.wp _ (dropL 4 bodyLe) _ e2 u2
  rw [pL_4]
  refine wp_seq (le_step (j := 3) (d := 18) ⟨⟨rfl, rfl, rfl⟩, ⟨rfl, rfl, rfl⟩, ⟨rfl, rfl, rfl⟩, ⟨rfl, ⟨_, rfl⟩, rfl⟩, ⟨rfl, rfl, rfl⟩, ⟨rfl, rfl, rfl⟩⟩ (by decide) (by decide) (by decide) lb_bin rfl (by kernel_rfl) bd_bin (fun vals w => by simp [go_sem]) (fun hr hl => lent_bin hr hl) (h.row 3 (by decide)) (hf 3 (by decide)) hne hbW hb0 hrkW h0 fun e3 u3 cs3 h0 => ?_)
  show Code.wp _ (dropL 5 bodyLe) _ e3 u3
  rw [pL_5]
  refine wp_seq (le_step (j := 4) (d := 23) ⟨⟨rfl, rfl, rfl⟩, ⟨rfl, rfl, rfl⟩, ⟨rfl, rfl, rfl⟩, ⟨rfl, ⟨_, rfl⟩, rfl⟩, ⟨rfl, rfl, rfl⟩, ⟨rfl, rfl, rfl⟩⟩ (by decide) (by decide) (by decide) lb_quant rfl (by kernel_rfl) bd_quant (fun vals w => by simp [go_sem]) (fun hr hl => lent_quant hr hl) (h.row 4 (by decide)) (hf 4 (by decide)) hne hbW hb0 hrkW h0 fun e4 u4 cs4 h0 => ?_)
  show Code.wp _ (dropL 6 bodyLe) _ e4 u4
  rw [pL_6]
  refine wp_seq (le_step (j := 5) (d := 28) ⟨⟨rfl, rfl, rfl⟩, ⟨rfl, rfl, rfl⟩, ⟨rfl, rfl, rfl⟩, ⟨rfl, ⟨_, rfl⟩, rfl⟩, ⟨rfl, rfl, rfl⟩, ⟨rfl, rfl, rfl⟩⟩ (by decide) (by decide) (by decide) lb_rule rfl (by kernel_rfl) bd_rule (fun vals w => by simp [go_sem]) (fun hr hl => lent_rule hr hl) (h.row 5 (by decide)) (hf 5 (by decide)) hne hbW hb0 hrkW h0 fun e5 u5 cs5 h0 => ?_)
  show Code.wp _ (dropL 7 bodyLe) _ e5 u5
  rw [pL_7]
  refine wp_seq (le_step (j := 6) (d := 33) ⟨⟨rfl, rfl, rfl⟩, ⟨rfl, rfl, rfl⟩, ⟨rfl, rfl, rfl⟩, ⟨rfl, ⟨_, rfl⟩, rfl⟩, ⟨rfl, rfl, rfl⟩, ⟨rfl, rfl, rfl⟩⟩ (by decide) (by decide) (by decide) lb_notice rfl (by kernel_rfl) bd_notice (fun vals w => by simp [go_sem]) (fun hr hl => lent_notice hr hl) (h.row 6 (by decide)) (hf 6 (by decide)) hne hbW hb0 hrkW h0 fun e6 u6 cs6 h0 => ?_)
  show Code.wp _ (dropL 8 bodyLe) _ e6 u6
  rw [pL_8]
  refine wp_seq (le_step (j := 7) (d := 38) ⟨⟨rfl, rfl, rfl⟩, ⟨rfl, rfl, rfl⟩, ⟨rfl, rfl, rfl⟩, ⟨rfl, ⟨_, rfl⟩, rfl⟩, ⟨rfl, rfl, rfl⟩, ⟨rfl, rfl, rfl⟩⟩ (by decide) (by decide) (by decide) lb_order rfl (by kernel_rfl) bd_order (fun vals w => by simp [go_sem]) (fun hr hl => lent_order hr hl) (h.row 7 (by decide)) (hf 7 (by decide)) hne hbW hb0 hrkW h0 fun e7 u7 cs7 h0 => ?_)
  show Code.wp _ (dropL 9 bodyLe) _ e7 u7
  rw [pL_9]
  refine wp_seq (le_step (j := 8) (d := 43) ⟨⟨rfl, rfl, rfl⟩, ⟨rfl, rfl, rfl⟩, ⟨rfl, rfl, rfl⟩, ⟨rfl, ⟨_, rfl⟩, rfl⟩, ⟨rfl, rfl, rfl⟩, ⟨rfl, rfl, rfl⟩⟩ (by decide) (by decide) (by decide) lb_claim rfl (by kernel_rfl) bd_claim (fun vals w => by simp [go_sem]) (fun hr hl => lent_claim hr hl) (h.row 8 (by decide)) (hf 8 (by decide)) hne hbW hb0 hrkW h0 fun e8 u8 cs8 h0 => ?_)
  show Code.wp _ (dropL 10 bodyLe) _ e8 u8
  rw [pL_10]
  refine wp_seq (le_step (j := 9) (d := 48) ⟨⟨rfl, rfl, rfl⟩, ⟨rfl, rfl, rfl⟩, ⟨rfl, rfl, rfl⟩, ⟨rfl, ⟨_, rfl⟩, rfl⟩, ⟨rfl, rfl, rfl⟩, ⟨rfl, rfl, rfl⟩⟩ (by decide) (by decide) (by decide) lb_task rfl (by kernel_rfl) bd_task (fun vals w => by simp [go_sem]) (fun hr hl => lent_task hr hl) (h.row 9 (by decide)) (hf 9 (by decide)) hne hbW hb0 hrkW h0 fun e9 u9 cs9 h0 => ?_)
  show Code.wp _ (dropL 11 bodyLe) _ e9 u9
  rw [pL_11]
  refine wp_seq (le_step (j := 10) (d := 53) ⟨⟨rfl, rfl, rfl⟩, ⟨rfl, rfl, rfl⟩, ⟨rfl, rfl, rfl⟩, ⟨rfl, ⟨_, rfl⟩, rfl⟩, ⟨rfl, rfl, rfl⟩, ⟨rfl, rfl, rfl⟩⟩ (by decide) (by decide) (by decide) lb_parcel rfl (by kernel_rfl) bd_parcel (fun vals w => by simp [go_sem]) (fun hr hl => lent_parcel hr hl) (h.row 10 (by decide)) (hf 10 (by decide)) hne hbW hb0 hrkW h0 fun e10 u10 cs10 h0 => ?_)
  show Code.wp _ (dropL 12 bodyLe) _ e10 u10
  rw [pL_12]
  refine wp_seq (le_step (j := 11) (d := 58) ⟨⟨rfl, rfl, rfl⟩, ⟨rfl, rfl, rfl⟩, ⟨rfl, rfl, rfl⟩, ⟨rfl, ⟨_, rfl⟩, rfl⟩, ⟨rfl, rfl, rfl⟩, ⟨rfl, rfl, rfl⟩⟩ (by decide) (by decide) (by decide) lb_sent rfl (by kernel_rfl) bd_sent (fun vals w => by simp [go_sem]) (fun hr hl => lent_sent hr hl) (h.row 11 (by decide)) (hf 11 (by decide)) hne hbW hb0 hrkW h0 fun e11 u11 cs11 h0 => ?_)
  show Code.wp _ (dropL 13 bodyLe) _ e11 u11
  rw [pL_13]
  refine wp_seq (le_step (j := 12) (d := 63) ⟨⟨rfl, rfl, rfl⟩, ⟨rfl, rfl, rfl⟩, ⟨rfl, rfl, rfl⟩, ⟨rfl, ⟨_, rfl⟩, rfl⟩, ⟨rfl, rfl, rfl⟩, ⟨rfl, rfl, rfl⟩⟩ (by decide) (by decide) (by decide) lb_counted rfl (by kernel_rfl) bd_counted (fun vals w => by simp [go_sem]) (fun hr hl => lent_counted hr hl) (h.row 12 (by decide)) (hf 12 (by decide)) hne hbW hb0 hrkW h0 fun e12 u12 cs12 h0 => ?_)
  show Code.wp _ (dropL 14 bodyLe) _ e12 u12
  rw [pL_14]
  refine wp_seq (le_step (j := 13) (d := 68) ⟨⟨rfl, rfl, rfl⟩, ⟨rfl, rfl, rfl⟩, ⟨rfl, rfl, rfl⟩, ⟨rfl, ⟨_, rfl⟩, rfl⟩, ⟨rfl, rfl, rfl⟩, ⟨rfl, rfl, rfl⟩⟩ (by decide) (by decide) (by decide) lb_total rfl (by kernel_rfl) bd_total (fun vals w => by simp [go_sem]) (fun hr hl => lent_total hr hl) (h.row 13 (by decide)) (hf 13 (by decide)) hne hbW hb0 hrkW h0 fun e13 u13 cs13 h0 => ?_)
  show Code.wp _ (dropL 15 bodyLe) _ e13 u13
  rw [pL_15]
  refine wp_seq (wp_region_list ?_)
  show wpList _ _ _ [_, _] e13 u13
  obtain ⟨zs, hk, hzl⟩ := h0.rk_
  have hcl := h0.len
  have hcn : cs13[14]? = some (.int .i64 z) := (h0.rest 14 (by omega)).trans h.num
  refine wpList_load_at rfl 37 (.tmp 1) rfl ⟨hb, 0, none⟩ h0.s1 cs13 _ (fun q v hv => by rw [add0B, h0.csH.cell]; exact hv) Tryz.underlying37 rfl (by rw [hcl]; exact size_ofP info_houseL) ?_
  have v1 : (e13.put (some 73) (.agg cs13.toArray)).eval (.tmp 73) = .agg cs13.toArray := put_same _ (by rw [h0.size]; decide)
  have v2 : (e13.put (some 73) (.agg cs13.toArray)).eval (.tmp 2) = .pointer (some ⟨rk, 0, none⟩) := (put_other _ (by decide)).trans h0.s2
  have d1 := (put_defers e13 (some 73) (.agg cs13.toArray)).trans h0.defers
  show wpList _ _ _ [_] (e13.put (some 73) (.agg cs13.toArray)) u13
  generalize e13.put (some 73) (.agg cs13.toArray) = a9 at v1 v2 d1
  have h1c : ∀ u ∈ cs13, u.oneCell' = true := by
    intro u hu
    obtain ⟨q, hq, rfl⟩ := List.getElem_of_mem hu
    by_cases e : q = 14
    · subst e
      rw [List.getElem?_eq_getElem hq] at hcn
      rw [Option.some.inj hcn]; rfl
    · obtain ⟨A, c, e2, _⟩ := h0.done q (by omega) (by omega)
      rw [List.getElem?_eq_getElem hq] at e2
      rw [Option.some.inj e2]; rfl
  refine wpList_storeV rfl 37 (.tmp 2) (.tmp 73) rfl rk 0 (.agg cs13.toArray) cs13 v2 v1 (by simp [Value.cells]) ?_ (by rw [hcl]; exact size_ofP info_houseL) h1c (wpList_nil ?_)
  · intro i hi
    rw [Nat.zero_add, hk.cell, hk.frozen]
    have : i < zs.length := by omega
    exact ⟨by simp [this], rfl⟩
  show Code.wp _ Code.ret _ a9 _
  have hset : Cs rk 37 cs13 (u13.setCells rk 0 cs13) := by
    have := Cs.setCells cs13 [] zs [] u13 (by omega) (by simpa using hk)
    simpa using this
  obtain ⟨s1, s2, s3, s4⟩ := same_setCells rk cs13 0 u13
  refine wp_ret ⟨d1, _, res_Le v2 hset hcl, cs13, rfl, ⟨hcl, fun q hq => ?_, hcn⟩, ?_⟩
  · obtain ⟨A, c, e2, hR, hnew⟩ := h0.done q hq hq
    refine ⟨A, c, e2, ⟨fun hl => ?_, hR.cap, hR.fits, hR.few⟩⟩
    obtain ⟨ad, ea, hbk, hc⟩ := hR.at_ hl
    have hn := hnew ad ea
    refine ⟨ad, ea, by rw [s4]; exact hbk, fun i x hx m u hu => ?_⟩
    rw [World.cell?_of_block (w := u13) (by rw [block_of_add]; exact heap_setCells rk _ _ u13 _ (by omega))]
    exact hc i x hx m u hu
  · exact ⟨s1.trans h0.below.os, s2.trans h0.below.tape, s3.trans h0.below.output, by rw [s4]; exact h0.below.size, fun i hi => (heap_setCells rk _ _ u13 i (by omega)).trans (h0.below.block i hi)⟩
end Go.Proofs.YtgdoodeibcfcjaaGreat.Wire
