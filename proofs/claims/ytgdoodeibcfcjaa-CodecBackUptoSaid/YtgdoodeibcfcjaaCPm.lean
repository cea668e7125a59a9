/- Of one claim's parts: CPlainG, CPlainH, CPlainI, CPlainJ, CClamp. -/
import Derived.Test.YtgdoodeibcfcjaaCPl
import Derived.Test.YtgdoodeibcfcjaaCBackPure
set_option linter.unusedVariables false
set_option linter.unusedSimpArgs false
namespace Go.Proofs.Ytgdoodeibcfcjaa.Wire
open Go.RowKit Go.Proofs.Ytgdoodeibcfcjaa.NumsPure Go.Proofs.Ytgdoodeibcfcjaa.CPure Go.Proofs.Ytgdoodeibcfcjaa.Own
theorem lp_item : LP 22 73 0 14 where
  fa := fun b w => by simp [go_sem]
  ag := fun w => by simp [go_sem]
  ix := fun ad n c i w h => by
    have h0 : (0 : Int) ≤ (i : Int) := by omega
    have h1 : (i : Int) < (n : Int) := by omega
    simp [go_sem, h0, h1]
theorem lp_lot : LP 23 76 1 3 where
  fa := fun b w => by simp [go_sem]
  ag := fun w => by simp [go_sem]
  ix := fun ad n c i w h => by
    have h0 : (0 : Int) ≤ (i : Int) := by omega
    have h1 : (i : Int) < (n : Int) := by omega
    simp [go_sem, h0, h1]
theorem lp_bin : LP 25 80 3 8 where
  fa := fun b w => by simp [go_sem]
  ag := fun w => by simp [go_sem]
  ix := fun ad n c i w h => by
    have h0 : (0 : Int) ≤ (i : Int) := by omega
    have h1 : (i : Int) < (n : Int) := by omega
    simp [go_sem, h0, h1]
theorem lp_quant : LP 26 84 4 6 where
  fa := fun b w => by simp [go_sem]
  ag := fun w => by simp [go_sem]
  ix := fun ad n c i w h => by
    have h0 : (0 : Int) ≤ (i : Int) := by omega
    have h1 : (i : Int) < (n : Int) := by omega
    simp [go_sem, h0, h1]
theorem lp_rule : LP 27 87 5 3 where
  fa := fun b w => by simp [go_sem]
  ag := fun w => by simp [go_sem]
  ix := fun ad n c i w h => by
    have h0 : (0 : Int) ≤ (i : Int) := by omega
    have h1 : (i : Int) < (n : Int) := by omega
    simp [go_sem, h0, h1]
theorem lp_notice : LP 28 92 6 51 where
  fa := fun b w => by simp [go_sem]
  ag := fun w => by simp [go_sem]
  ix := fun ad n c i w h => by
    have h0 : (0 : Int) ≤ (i : Int) := by omega
    have h1 : (i : Int) < (n : Int) := by omega
    simp [go_sem, h0, h1]
theorem lp_order : LP 29 95 7 50 where
  fa := fun b w => by simp [go_sem]
  ag := fun w => by simp [go_sem]
  ix := fun ad n c i w h => by
    have h0 : (0 : Int) ≤ (i : Int) := by omega
    have h1 : (i : Int) < (n : Int) := by omega
    simp [go_sem, h0, h1]
theorem lp_claim : LP 30 97 8 8 where
  fa := fun b w => by simp [go_sem]
  ag := fun w => by simp [go_sem]
  ix := fun ad n c i w h => by
    have h0 : (0 : Int) ≤ (i : Int) := by omega
    have h1 : (i : Int) < (n : Int) := by omega
    simp [go_sem, h0, h1]
theorem lp_task : LP 31 99 9 11 where
  fa := fun b w => by simp [go_sem]
  ag := fun w => by simp [go_sem]
  ix := fun ad n c i w h => by
    have h0 : (0 : Int) ≤ (i : Int) := by omega
    have h1 : (i : Int) < (n : Int) := by omega
    simp [go_sem, h0, h1]
theorem lp_sent : LP 33 103 11 5 where
  fa := fun b w => by simp [go_sem]
  ag := fun w => by simp [go_sem]
  ix := fun ad n c i w h => by
    have h0 : (0 : Int) ≤ (i : Int) := by omega
    have h1 : (i : Int) < (n : Int) := by omega
    simp [go_sem, h0, h1]
theorem lp_counted : LP 34 105 12 5 where
  fa := fun b w => by simp [go_sem]
  ag := fun w => by simp [go_sem]
  ix := fun ad n c i w h => by
    have h0 : (0 : Int) ≤ (i : Int) := by omega
    have h1 : (i : Int) < (n : Int) := by omega
    simp [go_sem, h0, h1]
theorem lp_total : LP 35 107 13 6 where
  fa := fun b w => by simp [go_sem]
  ag := fun w => by simp [go_sem]
  ix := fun ad n c i w h => by
    have h0 : (0 : Int) ≤ (i : Int) := by omega
    have h1 : (i : Int) < (n : Int) := by omega
    simp [go_sem, h0, h1]
theorem fp_lot_2 (b : Addr) (w : World) : (Instr.fieldAt 76 (.pointer (some b)) 2).run Try.prog w = .ok (.pointer (some (b.add 2))) w := by simp [go_sem]
set_option maxHeartbeats 4000000 in
set_option maxRecDepth 100000 in
theorem pl_lot {W : World} {hb : Nat} {vs : List Value} {R : Nat → List (List Value)} {z : Int} (hH : HW W hb vs R z) {a : Act} {w : World} {Q : Exit → Act → World → Prop} (hPut : PutOk Q) (h0 : LS W hb R 1 0 a w) (h : ∀ a' w', LS W hb R 2 0 a' w' → Q .normal a' w') : (partP 1).wp Try.prog Q a w := by
  refine pl_list (j := 1) (ct := 6) (hd := 60) (di := 65) (by decide) rfl rfl rfl ⟨rfl, rfl, rfl, rfl, rfl, rfl, rfl, rfl, rfl, ⟨_, rfl⟩, rfl, rfl, rfl, rfl, rfl⟩ ⟨rfl, rfl, rfl, rfl, ⟨_, rfl⟩, rfl, rfl, rfl, rfl⟩ (by decide) (by decide) (by decide) (by decide) (by decide) (by decide) lp_lot Try.underlying23 rfl hH ?_ hPut h0 h
  intro a w i L Q hPut hi hP hC hL hc hQ
  obtain ⟨v, hp, hg⟩ := hP
  obtain ⟨x, ad, c, hx, hcell, hrow, hfx, hblk⟩ := hH.num hg.below (by decide : 1 < 14) hi
  have hfew := hH.few (by decide : 1 < 14)
  obtain ⟨n, hn⟩ : ∃ n, n = (R 1).length := ⟨_, rfl⟩
  rw [← hn] at hi hcell hfew
  obtain ⟨z0, e0⟩ := int_at (m := 2) hfx rfl
  refine wp_region_list ?_
  show wpList _ _ _ [_, _, _, _, _, _, _, _, _, _] a w
  have hcell := at_eq hcell
  have hrow : ∀ m u, x[m]? = some u → ∀ w1, w1 = w → w1.cell? (ad.add (i * 3 + m)) = some u := fun m u hu => at_eq (hrow m u hu)
  refine mv_c (F := fun l a => wpList _ _ _ l a w) runs_list (d := 67) rfl rfl rfl (by rw [hp.size]; decide) hp.s3 fun a1 l1 vm => ?_
  have hp := hp.lo l1 (by decide)
  have hc := (l1.low 6 (by decide)).trans hc
  refine tt_c (F := fun l a => wpList _ _ _ l a w) runs_list (d := 68) (j := 1) (sz := 3) (ct := 6) ⟨rfl, rfl, rfl, rfl, rfl, rfl, rfl, rfl, rfl, rfl, rfl, rfl⟩ lp_lot (by decide) (by decide) (by decide) hp hc hi hcell fun a2 l2 tt => ?_
  have hp := hp.lo l2 (by decide)
  have hc := (l2.low 6 (by decide)).trans hc
  have vm := (l2.low 67 (by decide)).trans vm
  refine fl_c (F := fun l a => wpList _ _ _ l a w) runs_list (d := 72) (s := 71) (off := 2) ⟨rfl, rfl, rfl, rfl, rfl, rfl⟩ (by rw [hp.size]; decide) tt (fp_lot_2 _) (by rw [add_of_add]; exact hrow 2 _ e0) fun a3 l3 n0 => ?_
  have hp := hp.lo l3 (by decide)
  have hc := (l3.low 6 (by decide)).trans hc
  have vm := (l3.low 67 (by decide)).trans vm
  show wpList _ _ _ [_, _, _] a3 w
  refine tail_step (m := 74) (d0 := 67) (parts := #[(0, .tmp 73)]) (vs := [.int .i64 z0]) ⟨rfl, rfl, rfl, rfl, rfl, rfl, rfl, rfl, rfl⟩ (by decide) (by rw [hp.size]; decide) (by decide) (by simp) (by simp) (by simp [n0]) (by simp) vm hg hg.le (by omega) fun a' w' v' l' keep eS g' _ => ?_
  refine hQ a' w' _ ⟨v', ⟨l'.size.trans hp.size, l'.defers.trans hp.defers, (l'.low 1 (by decide)).trans hp.s1, eS⟩, g'⟩ (CJ.succ (N := 1 * 1100000 + i * 3) (PG.step (os := [2]) CJ.more (PG.start hC hL) rfl fun m hm y hy => ?_) hx (by decide)) (by simp; omega) ((keep 6 (by decide) (by decide)).trans hc)
  simp only [List.mem_cons, List.not_mem_nil, or_false] at hm
  rcases hm with rfl
  · rw [e0] at hy; cases hy; simp
theorem fp_bin_2 (b : Addr) (w : World) : (Instr.fieldAt 80 (.pointer (some b)) 2).run Try.prog w = .ok (.pointer (some (b.add 2))) w := by simp [go_sem]
theorem fp_bin_3 (b : Addr) (w : World) : (Instr.fieldAt 80 (.pointer (some b)) 3).run Try.prog w = .ok (.pointer (some (b.add 3))) w := by simp [go_sem]
theorem fp_bin_4 (b : Addr) (w : World) : (Instr.fieldAt 80 (.pointer (some b)) 4).run Try.prog w = .ok (.pointer (some (b.add 4))) w := by simp [go_sem]
theorem fp_bin_5 (b : Addr) (w : World) : (Instr.fieldAt 80 (.pointer (some b)) 5).run Try.prog w = .ok (.pointer (some (b.add 5))) w := by simp [go_sem]
theorem fp_bin_6 (b : Addr) (w : World) : (Instr.fieldAt 80 (.pointer (some b)) 6).run Try.prog w = .ok (.pointer (some (b.add 6))) w := by simp [go_sem]
set_option maxHeartbeats 4000000 in
set_option maxRecDepth 100000 in
theorem pl_bin {W : World} {hb : Nat} {vs : List Value} {R : Nat → List (List Value)} {z : Int} (hH : HW W hb vs R z) {a : Act} {w : World} {Q : Exit → Act → World → Prop} (hPut : PutOk Q) (h0 : LS W hb R 3 0 a w) (h : ∀ a' w', LS W hb R 4 0 a' w' → Q .normal a' w') : (partP 2).wp Try.prog Q a w := by
  refine pl_list (j := 3) (ct := 7) (hd := 76) (di := 81) (by decide) rfl rfl rfl ⟨rfl, rfl, rfl, rfl, rfl, rfl, rfl, rfl, rfl, ⟨_, rfl⟩, rfl, rfl, rfl, rfl, rfl⟩ ⟨rfl, rfl, rfl, rfl, ⟨_, rfl⟩, rfl, rfl, rfl, rfl⟩ (by decide) (by decide) (by decide) (by decide) (by decide) (by decide) lp_bin Try.underlying25 rfl hH ?_ hPut h0 h
  intro a w i L Q hPut hi hP hC hL hc hQ
  obtain ⟨v, hp, hg⟩ := hP
  obtain ⟨x, ad, c, hx, hcell, hrow, hfx, hblk⟩ := hH.num hg.below (by decide : 3 < 14) hi
  have hfew := hH.few (by decide : 3 < 14)
  obtain ⟨n, hn⟩ : ∃ n, n = (R 3).length := ⟨_, rfl⟩
  rw [← hn] at hi hcell hfew
  obtain ⟨z0, e0⟩ := int_at (m := 2) hfx rfl
  obtain ⟨z1, e1⟩ := int_at (m := 3) hfx rfl
  obtain ⟨z2, e2⟩ := int_at (m := 4) hfx rfl
  obtain ⟨z3, e3⟩ := int_at (m := 5) hfx rfl
  obtain ⟨z4, e4⟩ := int_at (m := 6) hfx rfl
  refine wp_seq (cp_region (d := 83) (e := 8) (sz := 8) (ct := 7) (ks := ks_bin) ⟨rfl, rfl, rfl, rfl, rfl, rfl, rfl, rfl, rfl, rfl, rfl, rfl⟩ ⟨rfl, rfl, rfl, rfl, rfl, rfl, rfl, rfl, rfl⟩ lp_bin (by decide) (by decide) (by decide) (by decide) (by decide) hp hc hi hcell Try.underlying80 rfl (size_ofP info_bin) (zero_ofP info_bin) hfx hrow fun a0 w0 hp0 hk0 se hcs hB => ?_)
  show Code.wp _ (Code.region _ _ _) _ a0 w0
  have hc := (hk0 7 (by decide) (by decide)).trans hc
  have hg := hg.later hg.le hB
  have hp := hp0
  refine wp_region_list ?_
  show wpList _ _ _ [_, _, _, _, _, _, _, _, _, _, _, _, _, _] a0 w0
  refine mv_c (F := fun l a => wpList _ _ _ l a w0) runs_list (d := 88) rfl rfl rfl (by rw [hp.size]; decide) hp.s3 fun a1 l1 vm => ?_
  have hp := hp.lo l1 (by decide)
  have hc := (l1.low 7 (by decide)).trans hc
  have se := (l1.low 8 (by decide)).trans se
  refine fl_c (F := fun l a => wpList _ _ _ l a w0) runs_list (d := 89) (s := 8) (off := 2) ⟨rfl, rfl, rfl, rfl, rfl, rfl⟩ (by rw [hp.size]; decide) se (fp_bin_2 _) (at_eq ((hcs.cell 2).trans e0)) fun a2 l2 n0 => ?_
  have hp := hp.lo l2 (by decide)
  have hc := (l2.low 7 (by decide)).trans hc
  have se := (l2.low 8 (by decide)).trans se
  have vm := (l2.low 88 (by decide)).trans vm
  refine fl_c (F := fun l a => wpList _ _ _ l a w0) runs_list (d := 91) (s := 8) (off := 3) ⟨rfl, rfl, rfl, rfl, rfl, rfl⟩ (by rw [hp.size]; decide) se (fp_bin_3 _) (at_eq ((hcs.cell 3).trans e1)) fun a3 l3 n1 => ?_
  have hp := hp.lo l3 (by decide)
  have hc := (l3.low 7 (by decide)).trans hc
  have se := (l3.low 8 (by decide)).trans se
  have vm := (l3.low 88 (by decide)).trans vm
  have n0 := (l3.low 90 (by decide)).trans n0
  refine fl_c (F := fun l a => wpList _ _ _ l a w0) runs_list (d := 93) (s := 8) (off := 4) ⟨rfl, rfl, rfl, rfl, rfl, rfl⟩ (by rw [hp.size]; decide) se (fp_bin_4 _) (at_eq ((hcs.cell 4).trans e2)) fun a4 l4 n2 => ?_
  have hp := hp.lo l4 (by decide)
  have hc := (l4.low 7 (by decide)).trans hc
  have se := (l4.low 8 (by decide)).trans se
  have vm := (l4.low 88 (by decide)).trans vm
  have n0 := (l4.low 90 (by decide)).trans n0
  have n1 := (l4.low 92 (by decide)).trans n1
  refine fl_c (F := fun l a => wpList _ _ _ l a w0) runs_list (d := 95) (s := 8) (off := 5) ⟨rfl, rfl, rfl, rfl, rfl, rfl⟩ (by rw [hp.size]; decide) se (fp_bin_5 _) (at_eq ((hcs.cell 5).trans e3)) fun a5 l5 n3 => ?_
  have hp := hp.lo l5 (by decide)
  have hc := (l5.low 7 (by decide)).trans hc
  have se := (l5.low 8 (by decide)).trans se
  have vm := (l5.low 88 (by decide)).trans vm
  have n0 := (l5.low 90 (by decide)).trans n0
  have n1 := (l5.low 92 (by decide)).trans n1
  have n2 := (l5.low 94 (by decide)).trans n2
  refine fl_c (F := fun l a => wpList _ _ _ l a w0) runs_list (d := 97) (s := 8) (off := 6) ⟨rfl, rfl, rfl, rfl, rfl, rfl⟩ (by rw [hp.size]; decide) se (fp_bin_6 _) (at_eq ((hcs.cell 6).trans e4)) fun a6 l6 n4 => ?_
  have hp := hp.lo l6 (by decide)
  have hc := (l6.low 7 (by decide)).trans hc
  have se := (l6.low 8 (by decide)).trans se
  have vm := (l6.low 88 (by decide)).trans vm
  have n0 := (l6.low 90 (by decide)).trans n0
  have n1 := (l6.low 92 (by decide)).trans n1
  have n2 := (l6.low 94 (by decide)).trans n2
  have n3 := (l6.low 96 (by decide)).trans n3
  show wpList _ _ _ [_, _, _] a6 w0
  refine tail_step (m := 99) (d0 := 88) (parts := #[(0, .tmp 90), (1, .tmp 92), (2, .tmp 94), (3, .tmp 96), (4, .tmp 98)]) (vs := [.int .i64 z0, .int .i64 z1, .int .i64 z2, .int .i64 z3, .int .i64 z4]) ⟨rfl, rfl, rfl, rfl, rfl, rfl, rfl, rfl, rfl⟩ (by decide) (by rw [hp.size]; decide) (by decide) (by simp) (by simp) (by simp [n0, n1, n2, n3, n4]) (by simp) vm hg hg.le (by omega) fun a' w' v' l' keep eS g' _ => ?_
  refine hQ a' w' _ ⟨v', ⟨l'.size.trans hp.size, l'.defers.trans hp.defers, (l'.low 1 (by decide)).trans hp.s1, eS⟩, g'⟩ (CJ.succ (N := 3 * 1100000 + i * 8) (PG.step (os := [2, 3, 4, 5, 6]) CJ.more (PG.start hC hL) rfl fun m hm y hy => ?_) hx (by decide)) (by simp; omega) ((keep 7 (by decide) (by decide)).trans hc)
  simp only [List.mem_cons, List.not_mem_nil, or_false] at hm
  rcases hm with rfl | rfl | rfl | rfl | rfl
  · rw [e0] at hy; cases hy; simp
  · rw [e1] at hy; cases hy; simp
  · rw [e2] at hy; cases hy; simp
  · rw [e3] at hy; cases hy; simp
  · rw [e4] at hy; cases hy; simp
theorem fp_quant_0 (b : Addr) (w : World) : (Instr.fieldAt 84 (.pointer (some b)) 0).run Try.prog w = .ok (.pointer (some (b.add 0))) w := by simp [go_sem]
theorem fp_quant_1 (b : Addr) (w : World) : (Instr.fieldAt 84 (.pointer (some b)) 1).run Try.prog w = .ok (.pointer (some (b.add 4))) w := by simp [go_sem]
theorem fp_quant_2 (b : Addr) (w : World) : (Instr.fieldAt 84 (.pointer (some b)) 2).run Try.prog w = .ok (.pointer (some (b.add 5))) w := by simp [go_sem]
set_option maxHeartbeats 4000000 in
set_option maxRecDepth 100000 in
theorem pl_quant {W : World} {hb : Nat} {vs : List Value} {R : Nat → List (List Value)} {z : Int} (hH : HW W hb vs R z) {a : Act} {w : World} {Q : Exit → Act → World → Prop} (hPut : PutOk Q) (h0 : LS W hb R 4 0 a w) (h : ∀ a' w', LS W hb R 5 0 a' w' → Q .normal a' w') : (partP 3).wp Try.prog Q a w := by
  refine pl_list (j := 4) (ct := 9) (hd := 101) (di := 106) (by decide) rfl rfl rfl ⟨rfl, rfl, rfl, rfl, rfl, rfl, rfl, rfl, rfl, ⟨_, rfl⟩, rfl, rfl, rfl, rfl, rfl⟩ ⟨rfl, rfl, rfl, rfl, ⟨_, rfl⟩, rfl, rfl, rfl, rfl⟩ (by decide) (by decide) (by decide) (by decide) (by decide) (by decide) lp_quant Try.underlying26 rfl hH ?_ hPut h0 h
  intro a w i L Q hPut hi hP hC hL hc hQ
  obtain ⟨v, hp, hg⟩ := hP
  obtain ⟨x, ad, c, hx, hcell, hrow, hfx, hblk⟩ := hH.num hg.below (by decide : 4 < 14) hi
  have hfew := hH.few (by decide : 4 < 14)
  obtain ⟨n, hn⟩ : ∃ n, n = (R 4).length := ⟨_, rfl⟩
  rw [← hn] at hi hcell hfew
  obtain ⟨z0, e0⟩ := int_at (m := 3) hfx rfl
  obtain ⟨z1, e1⟩ := int_at (m := 4) hfx rfl
  obtain ⟨z2, e2⟩ := int_at (m := 5) hfx rfl
  refine held_region (S := Keep v w.drew) (heads := [_, _, _, _, _, _, _, _, _, _, _, _, _, _, _, _, _, _, _, _]) hPut (by kernel_rfl) (by kernel_rfl) rfl rfl rfl (Keep.refl _ _) ?_
  show wpHd _ _ [_, _, _, _, _, _, _, _, _, _, _, _, _, _, _, _, _, _, _, _] a
  have hg := hg.drew
  have hcell := at_keep (w := w.drew) (hg.own_ne hH.cs.lt) hcell
  have hrow : ∀ m u, x[m]? = some u → ∀ w1, Keep v w.drew w1 → w1.cell? (ad.add (i * 6 + m)) = some u := fun m u hu => at_keep (w := w.drew) (hg.own_ne (by rw [block_of_add]; exact hblk)) (hrow m u hu)
  refine mv_c (F := fun l a => wpHd (Keep v w.drew) _ l a) runs_held (d := 108) rfl rfl rfl (by rw [hp.size]; decide) hp.s3 fun a1 l1 vm => ?_
  have hp := hp.lo l1 (by decide)
  have hc := (l1.low 9 (by decide)).trans hc
  refine tt_c (F := fun l a => wpHd (Keep v w.drew) _ l a) runs_held (d := 109) (j := 4) (sz := 6) (ct := 9) ⟨rfl, rfl, rfl, rfl, rfl, rfl, rfl, rfl, rfl, rfl, rfl, rfl⟩ lp_quant (by decide) (by decide) (by decide) hp hc hi hcell fun a2 l2 tt => ?_
  have hp := hp.lo l2 (by decide)
  have hc := (l2.low 9 (by decide)).trans hc
  have vm := (l2.low 108 (by decide)).trans vm
  refine fk_c (F := fun l a => wpHd (Keep v w.drew) _ l a) runs_held (d := 113) (s := 112) (off := 0) ⟨rfl, rfl, rfl, rfl, rfl, rfl, rfl, rfl, rfl⟩ (by rw [hp.size]; decide) tt (fp_quant_0 _) (by rw [add_of_add, add_of_add]; exact hrow 3 _ e0) fun a3 l3 n0 => ?_
  have hp := hp.lo l3 (by decide)
  have hc := (l3.low 9 (by decide)).trans hc
  have vm := (l3.low 108 (by decide)).trans vm
  refine tt_c (F := fun l a => wpHd (Keep v w.drew) _ l a) runs_held (d := 116) (j := 4) (sz := 6) (ct := 9) ⟨rfl, rfl, rfl, rfl, rfl, rfl, rfl, rfl, rfl, rfl, rfl, rfl⟩ lp_quant (by decide) (by decide) (by decide) hp hc hi hcell fun a4 l4 tt => ?_
  have hp := hp.lo l4 (by decide)
  have hc := (l4.low 9 (by decide)).trans hc
  have vm := (l4.low 108 (by decide)).trans vm
  have n0 := (l4.low 115 (by decide)).trans n0
  refine fl_c (F := fun l a => wpHd (Keep v w.drew) _ l a) runs_held (d := 120) (s := 119) (off := 4) ⟨rfl, rfl, rfl, rfl, rfl, rfl⟩ (by rw [hp.size]; decide) tt (fp_quant_1 _) (by rw [add_of_add]; exact hrow 4 _ e1) fun a5 l5 n1 => ?_
  have hp := hp.lo l5 (by decide)
  have hc := (l5.low 9 (by decide)).trans hc
  have vm := (l5.low 108 (by decide)).trans vm
  have n0 := (l5.low 115 (by decide)).trans n0
  refine tt_c (F := fun l a => wpHd (Keep v w.drew) _ l a) runs_held (d := 122) (j := 4) (sz := 6) (ct := 9) ⟨rfl, rfl, rfl, rfl, rfl, rfl, rfl, rfl, rfl, rfl, rfl, rfl⟩ lp_quant (by decide) (by decide) (by decide) hp hc hi hcell fun a6 l6 tt => ?_
  have hp := hp.lo l6 (by decide)
  have hc := (l6.low 9 (by decide)).trans hc
  have vm := (l6.low 108 (by decide)).trans vm
  have n0 := (l6.low 115 (by decide)).trans n0
  have n1 := (l6.low 121 (by decide)).trans n1
  refine fl_c (F := fun l a => wpHd (Keep v w.drew) _ l a) runs_held (d := 126) (s := 125) (off := 5) ⟨rfl, rfl, rfl, rfl, rfl, rfl⟩ (by rw [hp.size]; decide) tt (fp_quant_2 _) (by rw [add_of_add]; exact hrow 5 _ e2) fun a7 l7 n2 => ?_
  have hp := hp.lo l7 (by decide)
  have hc := (l7.low 9 (by decide)).trans hc
  have vm := (l7.low 108 (by decide)).trans vm
  have n0 := (l7.low 115 (by decide)).trans n0
  have n1 := (l7.low 121 (by decide)).trans n1
  show Tail3 _ _ _ _ _ a7 w.drew
  refine tail_stepH (Keep.refl _ _) (m := 128) (d0 := 108) (parts := #[(0, .tmp 115), (1, .tmp 121), (2, .tmp 127)]) (vs := [.int .i64 z0, .int .i64 z1, .int .i64 z2]) ⟨rfl, rfl, rfl, rfl, rfl, rfl, rfl, rfl, rfl⟩ (by decide) (by rw [hp.size]; decide) (by decide) (by simp) (by simp) (by simp [n0, n1, n2]) (by simp) vm hg hg.le (by omega) fun a' w' v' l' keep eS g' _ => ?_
  refine hQ a' w' _ ⟨v', ⟨l'.size.trans hp.size, l'.defers.trans hp.defers, (l'.low 1 (by decide)).trans hp.s1, eS⟩, g'⟩ (CJ.succ (N := 4 * 1100000 + i * 6) (PG.step (os := [3, 4, 5]) CJ.more (PG.start hC hL) rfl fun m hm y hy => ?_) hx (by decide)) (by simp; omega) ((keep 9 (by decide) (by decide)).trans hc)
  simp only [List.mem_cons, List.not_mem_nil, or_false] at hm
  rcases hm with rfl | rfl | rfl
  · rw [e0] at hy; cases hy; simp
  · rw [e1] at hy; cases hy; simp
  · rw [e2] at hy; cases hy; simp
theorem fp_rule_2 (b : Addr) (w : World) : (Instr.fieldAt 87 (.pointer (some b)) 2).run Try.prog w = .ok (.pointer (some (b.add 2))) w := by simp [go_sem]
set_option maxHeartbeats 4000000 in
set_option maxRecDepth 100000 in
theorem pl_rule {W : World} {hb : Nat} {vs : List Value} {R : Nat → List (List Value)} {z : Int} (hH : HW W hb vs R z) {a : Act} {w : World} {Q : Exit → Act → World → Prop} (hPut : PutOk Q) (h0 : LS W hb R 5 0 a w) (h : ∀ a' w', LS W hb R 6 0 a' w' → Q .normal a' w') : (partP 4).wp Try.prog Q a w := by
  refine pl_list (j := 5) (ct := 10) (hd := 130) (di := 135) (by decide) rfl rfl rfl ⟨rfl, rfl, rfl, rfl, rfl, rfl, rfl, rfl, rfl, ⟨_, rfl⟩, rfl, rfl, rfl, rfl, rfl⟩ ⟨rfl, rfl, rfl, rfl, ⟨_, rfl⟩, rfl, rfl, rfl, rfl⟩ (by decide) (by decide) (by decide) (by decide) (by decide) (by decide) lp_rule Try.underlying27 rfl hH ?_ hPut h0 h
  intro a w i L Q hPut hi hP hC hL hc hQ
  obtain ⟨v, hp, hg⟩ := hP
  obtain ⟨x, ad, c, hx, hcell, hrow, hfx, hblk⟩ := hH.num hg.below (by decide : 5 < 14) hi
  have hfew := hH.few (by decide : 5 < 14)
  obtain ⟨n, hn⟩ : ∃ n, n = (R 5).length := ⟨_, rfl⟩
  rw [← hn] at hi hcell hfew
  obtain ⟨z0, e0⟩ := int_at (m := 2) hfx rfl
  refine wp_region_list ?_
  show wpList _ _ _ [_, _, _, _, _, _, _, _, _, _] a w
  have hcell := at_eq hcell
  have hrow : ∀ m u, x[m]? = some u → ∀ w1, w1 = w → w1.cell? (ad.add (i * 3 + m)) = some u := fun m u hu => at_eq (hrow m u hu)
  refine mv_c (F := fun l a => wpList _ _ _ l a w) runs_list (d := 137) rfl rfl rfl (by rw [hp.size]; decide) hp.s3 fun a1 l1 vm => ?_
  have hp := hp.lo l1 (by decide)
  have hc := (l1.low 10 (by decide)).trans hc
  refine tt_c (F := fun l a => wpList _ _ _ l a w) runs_list (d := 138) (j := 5) (sz := 3) (ct := 10) ⟨rfl, rfl, rfl, rfl, rfl, rfl, rfl, rfl, rfl, rfl, rfl, rfl⟩ lp_rule (by decide) (by decide) (by decide) hp hc hi hcell fun a2 l2 tt => ?_
  have hp := hp.lo l2 (by decide)
  have hc := (l2.low 10 (by decide)).trans hc
  have vm := (l2.low 137 (by decide)).trans vm
  refine fl_c (F := fun l a => wpList _ _ _ l a w) runs_list (d := 142) (s := 141) (off := 2) ⟨rfl, rfl, rfl, rfl, rfl, rfl⟩ (by rw [hp.size]; decide) tt (fp_rule_2 _) (by rw [add_of_add]; exact hrow 2 _ e0) fun a3 l3 n0 => ?_
  have hp := hp.lo l3 (by decide)
  have hc := (l3.low 10 (by decide)).trans hc
  have vm := (l3.low 137 (by decide)).trans vm
  show wpList _ _ _ [_, _, _] a3 w
  refine tail_step (m := 144) (d0 := 137) (parts := #[(0, .tmp 143)]) (vs := [.int .i64 z0]) ⟨rfl, rfl, rfl, rfl, rfl, rfl, rfl, rfl, rfl⟩ (by decide) (by rw [hp.size]; decide) (by decide) (by simp) (by simp) (by simp [n0]) (by simp) vm hg hg.le (by omega) fun a' w' v' l' keep eS g' _ => ?_
  refine hQ a' w' _ ⟨v', ⟨l'.size.trans hp.size, l'.defers.trans hp.defers, (l'.low 1 (by decide)).trans hp.s1, eS⟩, g'⟩ (CJ.succ (N := 5 * 1100000 + i * 3) (PG.step (os := [2]) CJ.more (PG.start hC hL) rfl fun m hm y hy => ?_) hx (by decide)) (by simp; omega) ((keep 10 (by decide) (by decide)).trans hc)
  simp only [List.mem_cons, List.not_mem_nil, or_false] at hm
  rcases hm with rfl
  · rw [e0] at hy; cases hy; simp
theorem fp_claim_1 (b : Addr) (w : World) : (Instr.fieldAt 97 (.pointer (some b)) 1).run Try.prog w = .ok (.pointer (some (b.add 1))) w := by simp [go_sem]
theorem fp_claim_2 (b : Addr) (w : World) : (Instr.fieldAt 97 (.pointer (some b)) 2).run Try.prog w = .ok (.pointer (some (b.add 2))) w := by simp [go_sem]
theorem fp_claim_3 (b : Addr) (w : World) : (Instr.fieldAt 97 (.pointer (some b)) 3).run Try.prog w = .ok (.pointer (some (b.add 6))) w := by simp [go_sem]
theorem fp_claim_4 (b : Addr) (w : World) : (Instr.fieldAt 97 (.pointer (some b)) 4).run Try.prog w = .ok (.pointer (some (b.add 7))) w := by simp [go_sem]
set_option maxHeartbeats 4000000 in
set_option maxRecDepth 100000 in
theorem pl_claim {W : World} {hb : Nat} {vs : List Value} {R : Nat → List (List Value)} {z : Int} (hH : HW W hb vs R z) {a : Act} {w : World} {Q : Exit → Act → World → Prop} (hPut : PutOk Q) (h0 : LS W hb R 8 0 a w) (h : ∀ a' w', LS W hb R 9 0 a' w' → Q .normal a' w') : (partP 6).wp Try.prog Q a w := by
  refine pl_list (j := 8) (ct := 14) (hd := 205) (di := 210) (by decide) rfl rfl rfl ⟨rfl, rfl, rfl, rfl, rfl, rfl, rfl, rfl, rfl, ⟨_, rfl⟩, rfl, rfl, rfl, rfl, rfl⟩ ⟨rfl, rfl, rfl, rfl, ⟨_, rfl⟩, rfl, rfl, rfl, rfl⟩ (by decide) (by decide) (by decide) (by decide) (by decide) (by decide) lp_claim Try.underlying30 rfl hH ?_ hPut h0 h
  intro a w i L Q hPut hi hP hC hL hc hQ
  obtain ⟨v, hp, hg⟩ := hP
  obtain ⟨x, ad, c, hx, hcell, hrow, hfx, hblk⟩ := hH.num hg.below (by decide : 8 < 14) hi
  have hfew := hH.few (by decide : 8 < 14)
  obtain ⟨n, hn⟩ : ∃ n, n = (R 8).length := ⟨_, rfl⟩
  rw [← hn] at hi hcell hfew
  obtain ⟨z0, e0⟩ := int_at (m := 1) hfx rfl
  obtain ⟨z1, e1⟩ := int_at (m := 5) hfx rfl
  obtain ⟨z2, e2⟩ := int_at (m := 6) hfx rfl
  obtain ⟨z3, e3⟩ := int_at (m := 7) hfx rfl
  refine wp_seq (cp_region (d := 212) (e := 15) (sz := 8) (ct := 14) (ks := ks_claim) ⟨rfl, rfl, rfl, rfl, rfl, rfl, rfl, rfl, rfl, rfl, rfl, rfl⟩ ⟨rfl, rfl, rfl, rfl, rfl, rfl, rfl, rfl, rfl⟩ lp_claim (by decide) (by decide) (by decide) (by decide) (by decide) hp hc hi hcell Try.underlying97 rfl (size_ofP info_claim) (zero_ofP info_claim) hfx hrow fun a0 w0 hp0 hk0 se hcs hB => ?_)
  show Code.wp _ (Code.region _ _ _) _ a0 w0
  have hc := (hk0 14 (by decide) (by decide)).trans hc
  have hg := hg.later hg.le hB
  have hp := hp0
  refine wp_region_list ?_
  show wpList _ _ _ [_, _, _, _, _, _, _, _, _, _, _, _, _] a0 w0
  refine mv_c (F := fun l a => wpList _ _ _ l a w0) runs_list (d := 217) rfl rfl rfl (by rw [hp.size]; decide) hp.s3 fun a1 l1 vm => ?_
  have hp := hp.lo l1 (by decide)
  have hc := (l1.low 14 (by decide)).trans hc
  have se := (l1.low 15 (by decide)).trans se
  refine fl_c (F := fun l a => wpList _ _ _ l a w0) runs_list (d := 218) (s := 15) (off := 1) ⟨rfl, rfl, rfl, rfl, rfl, rfl⟩ (by rw [hp.size]; decide) se (fp_claim_1 _) (at_eq ((hcs.cell 1).trans e0)) fun a2 l2 n0 => ?_
  have hp := hp.lo l2 (by decide)
  have hc := (l2.low 14 (by decide)).trans hc
  have se := (l2.low 15 (by decide)).trans se
  have vm := (l2.low 217 (by decide)).trans vm
  refine fk_c (F := fun l a => wpList _ _ _ l a w0) runs_list (d := 220) (s := 15) (off := 2) ⟨rfl, rfl, rfl, rfl, rfl, rfl, rfl, rfl, rfl⟩ (by rw [hp.size]; decide) se (fp_claim_2 _) (at_eq ((hcs.cell 5).trans e1)) fun a3 l3 n1 => ?_
  have hp := hp.lo l3 (by decide)
  have hc := (l3.low 14 (by decide)).trans hc
  have se := (l3.low 15 (by decide)).trans se
  have vm := (l3.low 217 (by decide)).trans vm
  have n0 := (l3.low 219 (by decide)).trans n0
  refine fl_c (F := fun l a => wpList _ _ _ l a w0) runs_list (d := 223) (s := 15) (off := 6) ⟨rfl, rfl, rfl, rfl, rfl, rfl⟩ (by rw [hp.size]; decide) se (fp_claim_3 _) (at_eq ((hcs.cell 6).trans e2)) fun a4 l4 n2 => ?_
  have hp := hp.lo l4 (by decide)
  have hc := (l4.low 14 (by decide)).trans hc
  have se := (l4.low 15 (by decide)).trans se
  have vm := (l4.low 217 (by decide)).trans vm
  have n0 := (l4.low 219 (by decide)).trans n0
  have n1 := (l4.low 222 (by decide)).trans n1
  refine fl_c (F := fun l a => wpList _ _ _ l a w0) runs_list (d := 225) (s := 15) (off := 7) ⟨rfl, rfl, rfl, rfl, rfl, rfl⟩ (by rw [hp.size]; decide) se (fp_claim_4 _) (at_eq ((hcs.cell 7).trans e3)) fun a5 l5 n3 => ?_
  have hp := hp.lo l5 (by decide)
  have hc := (l5.low 14 (by decide)).trans hc
  have se := (l5.low 15 (by decide)).trans se
  have vm := (l5.low 217 (by decide)).trans vm
  have n0 := (l5.low 219 (by decide)).trans n0
  have n1 := (l5.low 222 (by decide)).trans n1
  have n2 := (l5.low 224 (by decide)).trans n2
  show wpList _ _ _ [_, _, _] a5 w0
  refine tail_step (m := 227) (d0 := 217) (parts := #[(0, .tmp 219), (1, .tmp 222), (2, .tmp 224), (3, .tmp 226)]) (vs := [.int .i64 z0, .int .i64 z1, .int .i64 z2, .int .i64 z3]) ⟨rfl, rfl, rfl, rfl, rfl, rfl, rfl, rfl, rfl⟩ (by decide) (by rw [hp.size]; decide) (by decide) (by simp) (by simp) (by simp [n0, n1, n2, n3]) (by simp) vm hg hg.le (by omega) fun a' w' v' l' keep eS g' _ => ?_
  refine hQ a' w' _ ⟨v', ⟨l'.size.trans hp.size, l'.defers.trans hp.defers, (l'.low 1 (by decide)).trans hp.s1, eS⟩, g'⟩ (CJ.succ (N := 8 * 1100000 + i * 8) (PG.step (os := [1, 5, 6, 7]) CJ.more (PG.start hC hL) rfl fun m hm y hy => ?_) hx (by decide)) (by simp; omega) ((keep 14 (by decide) (by decide)).trans hc)
  simp only [List.mem_cons, List.not_mem_nil, or_false] at hm
  rcases hm with rfl | rfl | rfl | rfl
  · rw [e0] at hy; cases hy; simp
  · rw [e1] at hy; cases hy; simp
  · rw [e2] at hy; cases hy; simp
  · rw [e3] at hy; cases hy; simp
theorem fp_task_0 (b : Addr) (w : World) : (Instr.fieldAt 99 (.pointer (some b)) 0).run Try.prog w = .ok (.pointer (some (b.add 0))) w := by simp [go_sem]
theorem fp_task_1 (b : Addr) (w : World) : (Instr.fieldAt 99 (.pointer (some b)) 1).run Try.prog w = .ok (.pointer (some (b.add 1))) w := by simp [go_sem]
theorem fp_task_3 (b : Addr) (w : World) : (Instr.fieldAt 99 (.pointer (some b)) 3).run Try.prog w = .ok (.pointer (some (b.add 3))) w := by simp [go_sem]
theorem fp_task_4 (b : Addr) (w : World) : (Instr.fieldAt 99 (.pointer (some b)) 4).run Try.prog w = .ok (.pointer (some (b.add 4))) w := by simp [go_sem]
theorem fp_task_6 (b : Addr) (w : World) : (Instr.fieldAt 99 (.pointer (some b)) 6).run Try.prog w = .ok (.pointer (some (b.add 9))) w := by simp [go_sem]
set_option maxHeartbeats 4000000 in
set_option maxRecDepth 100000 in
theorem pl_task {W : World} {hb : Nat} {vs : List Value} {R : Nat → List (List Value)} {z : Int} (hH : HW W hb vs R z) {a : Act} {w : World} {Q : Exit → Act → World → Prop} (hPut : PutOk Q) (h0 : LS W hb R 9 0 a w) (h : ∀ a' w', LS W hb R 10 0 a' w' → Q .normal a' w') : (partP 7).wp Try.prog Q a w := by
  refine pl_list (j := 9) (ct := 16) (hd := 229) (di := 234) (by decide) rfl rfl rfl ⟨rfl, rfl, rfl, rfl, rfl, rfl, rfl, rfl, rfl, ⟨_, rfl⟩, rfl, rfl, rfl, rfl, rfl⟩ ⟨rfl, rfl, rfl, rfl, ⟨_, rfl⟩, rfl, rfl, rfl, rfl⟩ (by decide) (by decide) (by decide) (by decide) (by decide) (by decide) lp_task Try.underlying31 rfl hH ?_ hPut h0 h
  intro a w i L Q hPut hi hP hC hL hc hQ
  obtain ⟨v, hp, hg⟩ := hP
  obtain ⟨x, ad, c, hx, hcell, hrow, hfx, hblk⟩ := hH.num hg.below (by decide : 9 < 14) hi
  have hfew := hH.few (by decide : 9 < 14)
  obtain ⟨n, hn⟩ : ∃ n, n = (R 9).length := ⟨_, rfl⟩
  rw [← hn] at hi hcell hfew
  obtain ⟨z0, e0⟩ := int_at (m := 0) hfx rfl
  obtain ⟨z1, e1⟩ := int_at (m := 1) hfx rfl
  obtain ⟨z2, e2⟩ := int_at (m := 3) hfx rfl
  obtain ⟨z3, e3⟩ := int_at (m := 7) hfx rfl
  obtain ⟨z4, e4⟩ := int_at (m := 9) hfx rfl
  refine wp_seq (cp_region (d := 236) (e := 17) (sz := 11) (ct := 16) (ks := ks_task) ⟨rfl, rfl, rfl, rfl, rfl, rfl, rfl, rfl, rfl, rfl, rfl, rfl⟩ ⟨rfl, rfl, rfl, rfl, rfl, rfl, rfl, rfl, rfl⟩ lp_task (by decide) (by decide) (by decide) (by decide) (by decide) hp hc hi hcell Try.underlying99 rfl (size_ofP info_task) (zero_ofP info_task) hfx hrow fun a0 w0 hp0 hk0 se hcs hB => ?_)
  show Code.wp _ (Code.region _ _ _) _ a0 w0
  have hc := (hk0 16 (by decide) (by decide)).trans hc
  have hg := hg.later hg.le hB
  have hp := hp0
  refine wp_region_list ?_
  show wpList _ _ _ [_, _, _, _, _, _, _, _, _, _, _, _, _, _, _] a0 w0
  refine mv_c (F := fun l a => wpList _ _ _ l a w0) runs_list (d := 241) rfl rfl rfl (by rw [hp.size]; decide) hp.s3 fun a1 l1 vm => ?_
  have hp := hp.lo l1 (by decide)
  have hc := (l1.low 16 (by decide)).trans hc
  have se := (l1.low 17 (by decide)).trans se
  refine fl_c (F := fun l a => wpList _ _ _ l a w0) runs_list (d := 242) (s := 17) (off := 0) ⟨rfl, rfl, rfl, rfl, rfl, rfl⟩ (by rw [hp.size]; decide) se (fp_task_0 _) (at_eq ((hcs.cell 0).trans e0)) fun a2 l2 n0 => ?_
  have hp := hp.lo l2 (by decide)
  have hc := (l2.low 16 (by decide)).trans hc
  have se := (l2.low 17 (by decide)).trans se
  have vm := (l2.low 241 (by decide)).trans vm
  refine fl_c (F := fun l a => wpList _ _ _ l a w0) runs_list (d := 244) (s := 17) (off := 1) ⟨rfl, rfl, rfl, rfl, rfl, rfl⟩ (by rw [hp.size]; decide) se (fp_task_1 _) (at_eq ((hcs.cell 1).trans e1)) fun a3 l3 n1 => ?_
  have hp := hp.lo l3 (by decide)
  have hc := (l3.low 16 (by decide)).trans hc
  have se := (l3.low 17 (by decide)).trans se
  have vm := (l3.low 241 (by decide)).trans vm
  have n0 := (l3.low 243 (by decide)).trans n0
  refine fl_c (F := fun l a => wpList _ _ _ l a w0) runs_list (d := 246) (s := 17) (off := 3) ⟨rfl, rfl, rfl, rfl, rfl, rfl⟩ (by rw [hp.size]; decide) se (fp_task_3 _) (at_eq ((hcs.cell 3).trans e2)) fun a4 l4 n2 => ?_
  have hp := hp.lo l4 (by decide)
  have hc := (l4.low 16 (by decide)).trans hc
  have se := (l4.low 17 (by decide)).trans se
  have vm := (l4.low 241 (by decide)).trans vm
  have n0 := (l4.low 243 (by decide)).trans n0
  have n1 := (l4.low 245 (by decide)).trans n1
  refine fk_c (F := fun l a => wpList _ _ _ l a w0) runs_list (d := 248) (s := 17) (off := 4) ⟨rfl, rfl, rfl, rfl, rfl, rfl, rfl, rfl, rfl⟩ (by rw [hp.size]; decide) se (fp_task_4 _) (at_eq ((hcs.cell 7).trans e3)) fun a5 l5 n3 => ?_
  have hp := hp.lo l5 (by decide)
  have hc := (l5.low 16 (by decide)).trans hc
  have se := (l5.low 17 (by decide)).trans se
  have vm := (l5.low 241 (by decide)).trans vm
  have n0 := (l5.low 243 (by decide)).trans n0
  have n1 := (l5.low 245 (by decide)).trans n1
  have n2 := (l5.low 247 (by decide)).trans n2
  refine fl_c (F := fun l a => wpList _ _ _ l a w0) runs_list (d := 251) (s := 17) (off := 9) ⟨rfl, rfl, rfl, rfl, rfl, rfl⟩ (by rw [hp.size]; decide) se (fp_task_6 _) (at_eq ((hcs.cell 9).trans e4)) fun a6 l6 n4 => ?_
  have hp := hp.lo l6 (by decide)
  have hc := (l6.low 16 (by decide)).trans hc
  have se := (l6.low 17 (by decide)).trans se
  have vm := (l6.low 241 (by decide)).trans vm
  have n0 := (l6.low 243 (by decide)).trans n0
  have n1 := (l6.low 245 (by decide)).trans n1
  have n2 := (l6.low 247 (by decide)).trans n2
  have n3 := (l6.low 250 (by decide)).trans n3
  show wpList _ _ _ [_, _, _] a6 w0
  refine tail_step (m := 253) (d0 := 241) (parts := #[(0, .tmp 243), (1, .tmp 245), (2, .tmp 247), (3, .tmp 250), (4, .tmp 252)]) (vs := [.int .i64 z0, .int .i64 z1, .int .i64 z2, .int .i64 z3, .int .i64 z4]) ⟨rfl, rfl, rfl, rfl, rfl, rfl, rfl, rfl, rfl⟩ (by decide) (by rw [hp.size]; decide) (by decide) (by simp) (by simp) (by simp [n0, n1, n2, n3, n4]) (by simp) vm hg hg.le (by omega) fun a' w' v' l' keep eS g' _ => ?_
  refine hQ a' w' _ ⟨v', ⟨l'.size.trans hp.size, l'.defers.trans hp.defers, (l'.low 1 (by decide)).trans hp.s1, eS⟩, g'⟩ (CJ.succ (N := 9 * 1100000 + i * 11) (PG.step (os := [0, 1, 3, 7, 9]) CJ.more (PG.start hC hL) rfl fun m hm y hy => ?_) hx (by decide)) (by simp; omega) ((keep 16 (by decide) (by decide)).trans hc)
  simp only [List.mem_cons, List.not_mem_nil, or_false] at hm
  rcases hm with rfl | rfl | rfl | rfl | rfl
  · rw [e0] at hy; cases hy; simp
  · rw [e1] at hy; cases hy; simp
  · rw [e2] at hy; cases hy; simp
  · rw [e3] at hy; cases hy; simp
  · rw [e4] at hy; cases hy; simp
theorem fp_sent_3 (b : Addr) (w : World) : (Instr.fieldAt 103 (.pointer (some b)) 3).run Try.prog w = .ok (.pointer (some (b.add 3))) w := by simp [go_sem]
theorem fp_sent_4 (b : Addr) (w : World) : (Instr.fieldAt 103 (.pointer (some b)) 4).run Try.prog w = .ok (.pointer (some (b.add 4))) w := by simp [go_sem]
set_option maxHeartbeats 4000000 in
set_option maxRecDepth 100000 in
theorem pl_sent {W : World} {hb : Nat} {vs : List Value} {R : Nat → List (List Value)} {z : Int} (hH : HW W hb vs R z) {a : Act} {w : World} {Q : Exit → Act → World → Prop} (hPut : PutOk Q) (h0 : LS W hb R 11 0 a w) (h : ∀ a' w', LS W hb R 12 0 a' w' → Q .normal a' w') : (partP 8).wp Try.prog Q a w := by
  refine pl_list (j := 11) (ct := 18) (hd := 255) (di := 260) (by decide) rfl rfl rfl ⟨rfl, rfl, rfl, rfl, rfl, rfl, rfl, rfl, rfl, ⟨_, rfl⟩, rfl, rfl, rfl, rfl, rfl⟩ ⟨rfl, rfl, rfl, rfl, ⟨_, rfl⟩, rfl, rfl, rfl, rfl⟩ (by decide) (by decide) (by decide) (by decide) (by decide) (by decide) lp_sent Try.underlying33 rfl hH ?_ hPut h0 h
  intro a w i L Q hPut hi hP hC hL hc hQ
  obtain ⟨v, hp, hg⟩ := hP
  obtain ⟨x, ad, c, hx, hcell, hrow, hfx, hblk⟩ := hH.num hg.below (by decide : 11 < 14) hi
  have hfew := hH.few (by decide : 11 < 14)
  obtain ⟨n, hn⟩ : ∃ n, n = (R 11).length := ⟨_, rfl⟩
  rw [← hn] at hi hcell hfew
  obtain ⟨z0, e0⟩ := int_at (m := 3) hfx rfl
  obtain ⟨z1, e1⟩ := int_at (m := 4) hfx rfl
  refine held_region (S := Keep v w.drew) (heads := [_, _, _, _, _, _, _, _, _, _, _, _, _]) hPut (by kernel_rfl) (by kernel_rfl) rfl rfl rfl (Keep.refl _ _) ?_
  show wpHd _ _ [_, _, _, _, _, _, _, _, _, _, _, _, _] a
  have hg := hg.drew
  have hcell := at_keep (w := w.drew) (hg.own_ne hH.cs.lt) hcell
  have hrow : ∀ m u, x[m]? = some u → ∀ w1, Keep v w.drew w1 → w1.cell? (ad.add (i * 5 + m)) = some u := fun m u hu => at_keep (w := w.drew) (hg.own_ne (by rw [block_of_add]; exact hblk)) (hrow m u hu)
  refine mv_c (F := fun l a => wpHd (Keep v w.drew) _ l a) runs_held (d := 262) rfl rfl rfl (by rw [hp.size]; decide) hp.s3 fun a1 l1 vm => ?_
  have hp := hp.lo l1 (by decide)
  have hc := (l1.low 18 (by decide)).trans hc
  refine tt_c (F := fun l a => wpHd (Keep v w.drew) _ l a) runs_held (d := 263) (j := 11) (sz := 5) (ct := 18) ⟨rfl, rfl, rfl, rfl, rfl, rfl, rfl, rfl, rfl, rfl, rfl, rfl⟩ lp_sent (by decide) (by decide) (by decide) hp hc hi hcell fun a2 l2 tt => ?_
  have hp := hp.lo l2 (by decide)
  have hc := (l2.low 18 (by decide)).trans hc
  have vm := (l2.low 262 (by decide)).trans vm
  refine fl_c (F := fun l a => wpHd (Keep v w.drew) _ l a) runs_held (d := 267) (s := 266) (off := 3) ⟨rfl, rfl, rfl, rfl, rfl, rfl⟩ (by rw [hp.size]; decide) tt (fp_sent_3 _) (by rw [add_of_add]; exact hrow 3 _ e0) fun a3 l3 n0 => ?_
  have hp := hp.lo l3 (by decide)
  have hc := (l3.low 18 (by decide)).trans hc
  have vm := (l3.low 262 (by decide)).trans vm
  refine tt_c (F := fun l a => wpHd (Keep v w.drew) _ l a) runs_held (d := 269) (j := 11) (sz := 5) (ct := 18) ⟨rfl, rfl, rfl, rfl, rfl, rfl, rfl, rfl, rfl, rfl, rfl, rfl⟩ lp_sent (by decide) (by decide) (by decide) hp hc hi hcell fun a4 l4 tt => ?_
  have hp := hp.lo l4 (by decide)
  have hc := (l4.low 18 (by decide)).trans hc
  have vm := (l4.low 262 (by decide)).trans vm
  have n0 := (l4.low 268 (by decide)).trans n0
  refine fl_c (F := fun l a => wpHd (Keep v w.drew) _ l a) runs_held (d := 273) (s := 272) (off := 4) ⟨rfl, rfl, rfl, rfl, rfl, rfl⟩ (by rw [hp.size]; decide) tt (fp_sent_4 _) (by rw [add_of_add]; exact hrow 4 _ e1) fun a5 l5 n1 => ?_
  have hp := hp.lo l5 (by decide)
  have hc := (l5.low 18 (by decide)).trans hc
  have vm := (l5.low 262 (by decide)).trans vm
  have n0 := (l5.low 268 (by decide)).trans n0
  show Tail3 _ _ _ _ _ a5 w.drew
  refine tail_stepH (Keep.refl _ _) (m := 275) (d0 := 262) (parts := #[(0, .tmp 268), (1, .tmp 274)]) (vs := [.int .i64 z0, .int .i64 z1]) ⟨rfl, rfl, rfl, rfl, rfl, rfl, rfl, rfl, rfl⟩ (by decide) (by rw [hp.size]; decide) (by decide) (by simp) (by simp) (by simp [n0, n1]) (by simp) vm hg hg.le (by omega) fun a' w' v' l' keep eS g' _ => ?_
  refine hQ a' w' _ ⟨v', ⟨l'.size.trans hp.size, l'.defers.trans hp.defers, (l'.low 1 (by decide)).trans hp.s1, eS⟩, g'⟩ (CJ.succ (N := 11 * 1100000 + i * 5) (PG.step (os := [3, 4]) CJ.more (PG.start hC hL) rfl fun m hm y hy => ?_) hx (by decide)) (by simp; omega) ((keep 18 (by decide) (by decide)).trans hc)
  simp only [List.mem_cons, List.not_mem_nil, or_false] at hm
  rcases hm with rfl | rfl
  · rw [e0] at hy; cases hy; simp
  · rw [e1] at hy; cases hy; simp
theorem fp_counted_0 (b : Addr) (w : World) : (Instr.fieldAt 105 (.pointer (some b)) 0).run Try.prog w = .ok (.pointer (some (b.add 0))) w := by simp [go_sem]
theorem fp_counted_1 (b : Addr) (w : World) : (Instr.fieldAt 105 (.pointer (some b)) 1).run Try.prog w = .ok (.pointer (some (b.add 4))) w := by simp [go_sem]
set_option maxHeartbeats 4000000 in
set_option maxRecDepth 100000 in
theorem pl_counted {W : World} {hb : Nat} {vs : List Value} {R : Nat → List (List Value)} {z : Int} (hH : HW W hb vs R z) {a : Act} {w : World} {Q : Exit → Act → World → Prop} (hPut : PutOk Q) (h0 : LS W hb R 12 0 a w) (h : ∀ a' w', LS W hb R 13 0 a' w' → Q .normal a' w') : (partP 9).wp Try.prog Q a w := by
  refine pl_list (j := 12) (ct := 19) (hd := 277) (di := 282) (by decide) rfl rfl rfl ⟨rfl, rfl, rfl, rfl, rfl, rfl, rfl, rfl, rfl, ⟨_, rfl⟩, rfl, rfl, rfl, rfl, rfl⟩ ⟨rfl, rfl, rfl, rfl, ⟨_, rfl⟩, rfl, rfl, rfl, rfl⟩ (by decide) (by decide) (by decide) (by decide) (by decide) (by decide) lp_counted Try.underlying34 rfl hH ?_ hPut h0 h
  intro a w i L Q hPut hi hP hC hL hc hQ
  obtain ⟨v, hp, hg⟩ := hP
  obtain ⟨x, ad, c, hx, hcell, hrow, hfx, hblk⟩ := hH.num hg.below (by decide : 12 < 14) hi
  have hfew := hH.few (by decide : 12 < 14)
  obtain ⟨n, hn⟩ : ∃ n, n = (R 12).length := ⟨_, rfl⟩
  rw [← hn] at hi hcell hfew
  obtain ⟨z0, e0⟩ := int_at (m := 3) hfx rfl
  obtain ⟨z1, e1⟩ := int_at (m := 4) hfx rfl
  refine held_region (S := Keep v w.drew) (heads := [_, _, _, _, _, _, _, _, _, _, _, _, _, _]) hPut (by kernel_rfl) (by kernel_rfl) rfl rfl rfl (Keep.refl _ _) ?_
  show wpHd _ _ [_, _, _, _, _, _, _, _, _, _, _, _, _, _] a
  have hg := hg.drew
  have hcell := at_keep (w := w.drew) (hg.own_ne hH.cs.lt) hcell
  have hrow : ∀ m u, x[m]? = some u → ∀ w1, Keep v w.drew w1 → w1.cell? (ad.add (i * 5 + m)) = some u := fun m u hu => at_keep (w := w.drew) (hg.own_ne (by rw [block_of_add]; exact hblk)) (hrow m u hu)
  refine mv_c (F := fun l a => wpHd (Keep v w.drew) _ l a) runs_held (d := 284) rfl rfl rfl (by rw [hp.size]; decide) hp.s3 fun a1 l1 vm => ?_
  have hp := hp.lo l1 (by decide)
  have hc := (l1.low 19 (by decide)).trans hc
  refine tt_c (F := fun l a => wpHd (Keep v w.drew) _ l a) runs_held (d := 285) (j := 12) (sz := 5) (ct := 19) ⟨rfl, rfl, rfl, rfl, rfl, rfl, rfl, rfl, rfl, rfl, rfl, rfl⟩ lp_counted (by decide) (by decide) (by decide) hp hc hi hcell fun a2 l2 tt => ?_
  have hp := hp.lo l2 (by decide)
  have hc := (l2.low 19 (by decide)).trans hc
  have vm := (l2.low 284 (by decide)).trans vm
  refine fk_c (F := fun l a => wpHd (Keep v w.drew) _ l a) runs_held (d := 289) (s := 288) (off := 0) ⟨rfl, rfl, rfl, rfl, rfl, rfl, rfl, rfl, rfl⟩ (by rw [hp.size]; decide) tt (fp_counted_0 _) (by rw [add_of_add, add_of_add]; exact hrow 3 _ e0) fun a3 l3 n0 => ?_
  have hp := hp.lo l3 (by decide)
  have hc := (l3.low 19 (by decide)).trans hc
  have vm := (l3.low 284 (by decide)).trans vm
  refine tt_c (F := fun l a => wpHd (Keep v w.drew) _ l a) runs_held (d := 292) (j := 12) (sz := 5) (ct := 19) ⟨rfl, rfl, rfl, rfl, rfl, rfl, rfl, rfl, rfl, rfl, rfl, rfl⟩ lp_counted (by decide) (by decide) (by decide) hp hc hi hcell fun a4 l4 tt => ?_
  have hp := hp.lo l4 (by decide)
  have hc := (l4.low 19 (by decide)).trans hc
  have vm := (l4.low 284 (by decide)).trans vm
  have n0 := (l4.low 291 (by decide)).trans n0
  refine fl_c (F := fun l a => wpHd (Keep v w.drew) _ l a) runs_held (d := 296) (s := 295) (off := 4) ⟨rfl, rfl, rfl, rfl, rfl, rfl⟩ (by rw [hp.size]; decide) tt (fp_counted_1 _) (by rw [add_of_add]; exact hrow 4 _ e1) fun a5 l5 n1 => ?_
  have hp := hp.lo l5 (by decide)
  have hc := (l5.low 19 (by decide)).trans hc
  have vm := (l5.low 284 (by decide)).trans vm
  have n0 := (l5.low 291 (by decide)).trans n0
  show Tail3 _ _ _ _ _ a5 w.drew
  refine tail_stepH (Keep.refl _ _) (m := 298) (d0 := 284) (parts := #[(0, .tmp 291), (1, .tmp 297)]) (vs := [.int .i64 z0, .int .i64 z1]) ⟨rfl, rfl, rfl, rfl, rfl, rfl, rfl, rfl, rfl⟩ (by decide) (by rw [hp.size]; decide) (by decide) (by simp) (by simp) (by simp [n0, n1]) (by simp) vm hg hg.le (by omega) fun a' w' v' l' keep eS g' _ => ?_
  refine hQ a' w' _ ⟨v', ⟨l'.size.trans hp.size, l'.defers.trans hp.defers, (l'.low 1 (by decide)).trans hp.s1, eS⟩, g'⟩ (CJ.succ (N := 12 * 1100000 + i * 5) (PG.step (os := [3, 4]) CJ.more (PG.start hC hL) rfl fun m hm y hy => ?_) hx (by decide)) (by simp; omega) ((keep 19 (by decide) (by decide)).trans hc)
  simp only [List.mem_cons, List.not_mem_nil, or_false] at hm
  rcases hm with rfl | rfl
  · rw [e0] at hy; cases hy; simp
  · rw [e1] at hy; cases hy; simp
theorem fp_total_2 (b : Addr) (w : World) : (Instr.fieldAt 107 (.pointer (some b)) 2).run Try.prog w = .ok (.pointer (some (b.add 2))) w := by simp [go_sem]
theorem fp_total_3 (b : Addr) (w : World) : (Instr.fieldAt 107 (.pointer (some b)) 3).run Try.prog w = .ok (.pointer (some (b.add 3))) w := by simp [go_sem]
theorem fp_total_4 (b : Addr) (w : World) : (Instr.fieldAt 107 (.pointer (some b)) 4).run Try.prog w = .ok (.pointer (some (b.add 4))) w := by simp [go_sem]
theorem fp_total_5 (b : Addr) (w : World) : (Instr.fieldAt 107 (.pointer (some b)) 5).run Try.prog w = .ok (.pointer (some (b.add 5))) w := by simp [go_sem]
set_option maxHeartbeats 4000000 in
set_option maxRecDepth 100000 in
theorem pl_total {W : World} {hb : Nat} {vs : List Value} {R : Nat → List (List Value)} {z : Int} (hH : HW W hb vs R z) {a : Act} {w : World} {Q : Exit → Act → World → Prop} (hPut : PutOk Q) (h0 : LS W hb R 13 0 a w) (h : ∀ a' w', LS W hb R 14 0 a' w' → Q .normal a' w') : (partP 10).wp Try.prog Q a w := by
  refine pl_list (j := 13) (ct := 20) (hd := 300) (di := 305) (by decide) rfl rfl rfl ⟨rfl, rfl, rfl, rfl, rfl, rfl, rfl, rfl, rfl, ⟨_, rfl⟩, rfl, rfl, rfl, rfl, rfl⟩ ⟨rfl, rfl, rfl, rfl, ⟨_, rfl⟩, rfl, rfl, rfl, rfl⟩ (by decide) (by decide) (by decide) (by decide) (by decide) (by decide) lp_total Try.underlying35 rfl hH ?_ hPut h0 h
  intro a w i L Q hPut hi hP hC hL hc hQ
  obtain ⟨v, hp, hg⟩ := hP
  obtain ⟨x, ad, c, hx, hcell, hrow, hfx, hblk⟩ := hH.num hg.below (by decide : 13 < 14) hi
  have hfew := hH.few (by decide : 13 < 14)
  obtain ⟨n, hn⟩ : ∃ n, n = (R 13).length := ⟨_, rfl⟩
  rw [← hn] at hi hcell hfew
  obtain ⟨z0, e0⟩ := int_at (m := 2) hfx rfl
  obtain ⟨z1, e1⟩ := int_at (m := 3) hfx rfl
  obtain ⟨z2, e2⟩ := int_at (m := 4) hfx rfl
  obtain ⟨z3, e3⟩ := int_at (m := 5) hfx rfl
  refine wp_seq (cp_region (d := 307) (e := 21) (sz := 6) (ct := 20) (ks := ks_total) ⟨rfl, rfl, rfl, rfl, rfl, rfl, rfl, rfl, rfl, rfl, rfl, rfl⟩ ⟨rfl, rfl, rfl, rfl, rfl, rfl, rfl, rfl, rfl⟩ lp_total (by decide) (by decide) (by decide) (by decide) (by decide) hp hc hi hcell Try.underlying107 rfl (size_ofP info_total) (zero_ofP info_total) hfx hrow fun a0 w0 hp0 hk0 se hcs hB => ?_)
  show Code.wp _ (Code.region _ _ _) _ a0 w0
  have hc := (hk0 20 (by decide) (by decide)).trans hc
  have hg := hg.later hg.le hB
  have hp := hp0
  refine wp_region_list ?_
  show wpList _ _ _ [_, _, _, _, _, _, _, _, _, _, _, _] a0 w0
  refine mv_c (F := fun l a => wpList _ _ _ l a w0) runs_list (d := 312) rfl rfl rfl (by rw [hp.size]; decide) hp.s3 fun a1 l1 vm => ?_
  have hp := hp.lo l1 (by decide)
  have hc := (l1.low 20 (by decide)).trans hc
  have se := (l1.low 21 (by decide)).trans se
  refine fl_c (F := fun l a => wpList _ _ _ l a w0) runs_list (d := 313) (s := 21) (off := 2) ⟨rfl, rfl, rfl, rfl, rfl, rfl⟩ (by rw [hp.size]; decide) se (fp_total_2 _) (at_eq ((hcs.cell 2).trans e0)) fun a2 l2 n0 => ?_
  have hp := hp.lo l2 (by decide)
  have hc := (l2.low 20 (by decide)).trans hc
  have se := (l2.low 21 (by decide)).trans se
  have vm := (l2.low 312 (by decide)).trans vm
  refine fl_c (F := fun l a => wpList _ _ _ l a w0) runs_list (d := 315) (s := 21) (off := 3) ⟨rfl, rfl, rfl, rfl, rfl, rfl⟩ (by rw [hp.size]; decide) se (fp_total_3 _) (at_eq ((hcs.cell 3).trans e1)) fun a3 l3 n1 => ?_
  have hp := hp.lo l3 (by decide)
  have hc := (l3.low 20 (by decide)).trans hc
  have se := (l3.low 21 (by decide)).trans se
  have vm := (l3.low 312 (by decide)).trans vm
  have n0 := (l3.low 314 (by decide)).trans n0
  refine fl_c (F := fun l a => wpList _ _ _ l a w0) runs_list (d := 317) (s := 21) (off := 4) ⟨rfl, rfl, rfl, rfl, rfl, rfl⟩ (by rw [hp.size]; decide) se (fp_total_4 _) (at_eq ((hcs.cell 4).trans e2)) fun a4 l4 n2 => ?_
  have hp := hp.lo l4 (by decide)
  have hc := (l4.low 20 (by decide)).trans hc
  have se := (l4.low 21 (by decide)).trans se
  have vm := (l4.low 312 (by decide)).trans vm
  have n0 := (l4.low 314 (by decide)).trans n0
  have n1 := (l4.low 316 (by decide)).trans n1
  refine fl_c (F := fun l a => wpList _ _ _ l a w0) runs_list (d := 319) (s := 21) (off := 5) ⟨rfl, rfl, rfl, rfl, rfl, rfl⟩ (by rw [hp.size]; decide) se (fp_total_5 _) (at_eq ((hcs.cell 5).trans e3)) fun a5 l5 n3 => ?_
  have hp := hp.lo l5 (by decide)
  have hc := (l5.low 20 (by decide)).trans hc
  have se := (l5.low 21 (by decide)).trans se
  have vm := (l5.low 312 (by decide)).trans vm
  have n0 := (l5.low 314 (by decide)).trans n0
  have n1 := (l5.low 316 (by decide)).trans n1
  have n2 := (l5.low 318 (by decide)).trans n2
  show wpList _ _ _ [_, _, _] a5 w0
  refine tail_step (m := 321) (d0 := 312) (parts := #[(0, .tmp 314), (1, .tmp 316), (2, .tmp 318), (3, .tmp 320)]) (vs := [.int .i64 z0, .int .i64 z1, .int .i64 z2, .int .i64 z3]) ⟨rfl, rfl, rfl, rfl, rfl, rfl, rfl, rfl, rfl⟩ (by decide) (by rw [hp.size]; decide) (by decide) (by simp) (by simp) (by simp [n0, n1, n2, n3]) (by simp) vm hg hg.le (by omega) fun a' w' v' l' keep eS g' _ => ?_
  refine hQ a' w' _ ⟨v', ⟨l'.size.trans hp.size, l'.defers.trans hp.defers, (l'.low 1 (by decide)).trans hp.s1, eS⟩, g'⟩ (CJ.succ (N := 13 * 1100000 + i * 6) (PG.step (os := [2, 3, 4, 5]) CJ.more (PG.start hC hL) rfl fun m hm y hy => ?_) hx (by decide)) (by simp; omega) ((keep 20 (by decide) (by decide)).trans hc)
  simp only [List.mem_cons, List.not_mem_nil, or_false] at hm
  rcases hm with rfl | rfl | rfl | rfl
  · rw [e0] at hy; cases hy; simp
  · rw [e1] at hy; cases hy; simp
  · rw [e2] at hy; cases hy; simp
  · rw [e3] at hy; cases hy; simp
end Go.Proofs.Ytgdoodeibcfcjaa.Wire
namespace Go.Proofs.Ytgdoodeibcfcjaa.Wire
open Go.RowKit Go.Proofs.Ytgdoodeibcfcjaa.NumsPure Go.Proofs.Ytgdoodeibcfcjaa.CPure Go.Proofs.Ytgdoodeibcfcjaa.Own
structure HeadK (ct d K : Nat) (o1 o2 : Oper) : Prop where
  g1 : o1.guard = none
  g2 : o2.guard = none
  p1 : o1.op = .move (.tmp ct)
  p2 : ∃ r, o2.op = .binOp .lss 3 (.tmp d) (.const (.int .i64 (K : Int))) r
  d1 : o1.dst = some d
  d2 : o2.dst = some (d + 1)
theorem head_k {ct d K i : Nat} {o1 o2 : Oper} {id : Nat} {a : Act} {w : World} {Q : Exit → Act → World → Prop} (ho : HeadK ct d K o1 o2) (hz : d + 1 < a.tmps.size) (hc : a.eval (.tmp ct) = .int .i64 (i : Int)) (h : ∀ a', Lo d a a' → a'.eval (.tmp (d + 1)) = .bool (decide (i < K)) → Q .normal a' w) : (Code.region id #[o1, o2] false).wp Try.prog Q a w := by
  refine wp_region_list ?_
  show wpList _ _ _ [o1, o2] a w
  refine mv_c (F := fun l a => wpList _ _ _ l a w) (runs_list) ho.g1 ho.p1 ho.d1 (by omega) hc fun a1 l1 v1 => ?_
  obtain ⟨r, hp⟩ := ho.p2
  have hdd : decide ((i : Int) < (K : Int)) = decide (i < K) := by rw [decide_eq_decide]; omega
  obtain ⟨q, hq⟩ : ∃ q : Int, q = (K : Int) := ⟨_, rfl⟩
  rw [← hq] at hp hdd
  have e0 : a1.eval (.const (.int .i64 q)) = .int .i64 q := rfl
  refine out (F := fun l a => wpList _ _ _ l a w) (runs_list) ho.g2 ho.d2 (by rw [l1.size]; omega) (.bool (decide (i < K))) (by unfold execOp; simp only [hp, v1, e0]; simp [go_sem, hdd]) fun a2 l2 v2 => ?_
  exact wpList_nil (h a2 ⟨l2.size.trans l1.size, l2.defers.trans l1.defers, fun s hs => (l2.low s (by omega)).trans (l1.low s hs)⟩ v2)
/-! ### The items -/
theorem fp_item_1 (b : Addr) (w : World) : (Instr.fieldAt 73 (.pointer (some b)) 1).run Try.prog w = .ok (.pointer (some (b.add 1))) w := by simp [go_sem]
theorem fp_item_2 (b : Addr) (w : World) : (Instr.fieldAt 73 (.pointer (some b)) 2).run Try.prog w = .ok (.pointer (some (b.add 9))) w := by simp [go_sem]
theorem fp_item_3 (b : Addr) (w : World) : (Instr.fieldAt 73 (.pointer (some b)) 3).run Try.prog w = .ok (.pointer (some (b.add 10))) w := by simp [go_sem]
theorem fp_unit_1 (b : Addr) (w : World) : (Instr.fieldAt 70 (.pointer (some b)) 1).run Try.prog w = .ok (.pointer (some (b.add 1))) w := by simp [go_sem]
theorem ix_units (b : Addr) (i : Nat) (w : World) (hi : i < 4) : (Instr.indexAt 71 (.pointer (some b)) (.int .i64 (i : Int))).run Try.prog w = .ok (.pointer (some (b.add (i * 2)))) w := by
  have h0 : (0 : Int) ≤ (i : Int) := by omega
  have h1 : (i : Int) < 4 := by omega
  simp [go_sem, h0, h1]
def msU (k : Nat) : List Nat := [9, 10] ++ (List.range k).map (fun q => 2 + 2 * q)
theorem msU_succ (k : Nat) : msU (k + 1) = msU k ++ [2 + 2 * k] := by simp [msU, List.range_succ]
theorem msU_len (k : Nat) : (msU k).length = k + 2 := by simp [msU]
/-- The inner loop's state: the thing's numbers so far. -/
def US (W : World) (hb : Nat) (R : Nat → List (List Value)) (i : Nat) (x : List Value) (k : Nat) (a : Act) (w : World) : Prop := ∃ L, PS W hb L a w ∧ PG (CJ R 0 i) (0 * 1100000 + i * 14) x (msU k) L ∧ a.eval (.tmp 4) = .int .i64 (i : Int)
theorem US.kept {W w : World} {hb i k : Nat} {R : Nat → List (List Value)} {x : List Value} {a a' : Act} (h : US W hb R i x k a w) (hz : a'.tmps.size = a.tmps.size) (hd : a'.defers = a.defers) (h1 : a'.eval (.tmp 1) = a.eval (.tmp 1)) (h3 : a'.eval (.tmp 3) = a.eval (.tmp 3)) (h4 : a'.eval (.tmp 4) = a.eval (.tmp 4)) : US W hb R i x k a' w := by
  obtain ⟨L, q, g, c⟩ := h
  exact ⟨L, q.kept hz hd h1 h3, g, h4.trans c⟩
theorem US.size {W w : World} {hb i k : Nat} {R : Nat → List (List Value)} {x : List Value} {a : Act} (h : US W hb R i x k a w) : a.tmps.size = 329 := by
  obtain ⟨L, ⟨v, q, g⟩, _⟩ := h
  exact q.size
set_option maxHeartbeats 4000000 in
set_option maxRecDepth 100000 in
theorem pl_item {W : World} {hb : Nat} {vs : List Value} {R : Nat → List (List Value)} {z : Int} (hH : HW W hb vs R z) {a : Act} {w : World} {Q : Exit → Act → World → Prop} (hPut : PutOk Q) (h0 : LS W hb R 0 0 a w) (h : ∀ a' w', LS W hb R 1 0 a' w' → Q .normal a' w') : (partP 0).wp Try.prog Q a w := by
  refine pl_list (j := 0) (ct := 4) (hd := 22) (di := 27) (by decide) rfl rfl rfl ⟨rfl, rfl, rfl, rfl, rfl, rfl, rfl, rfl, rfl, ⟨_, rfl⟩, rfl, rfl, rfl, rfl, rfl⟩ ⟨rfl, rfl, rfl, rfl, ⟨_, rfl⟩, rfl, rfl, rfl, rfl⟩ (by decide) (by decide) (by decide) (by decide) (by decide) (by decide) lp_item Try.underlying22 rfl hH ?_ hPut h0 h
  intro a w i L Q hPut hi hP hC hL hc hQ
  have hi0 := hi
  obtain ⟨v, hp, hg⟩ := hP
  obtain ⟨x, ad, c, hx, hcell, hrow, hfx, hblk⟩ := hH.num hg.below (by decide : 0 < 14) hi
  have hfew := hH.few (by decide : 0 < 14)
  obtain ⟨n, hn⟩ : ∃ n, n = (R 0).length := ⟨_, rfl⟩
  rw [← hn] at hi hcell hfew
  obtain ⟨z0, e0⟩ := int_at (m := 9) hfx rfl
  obtain ⟨z1, e1⟩ := int_at (m := 10) hfx rfl
  refine wp_seq ?_
  refine held_region (S := Keep v w.drew) (heads := [_, _, _, _, _, _, _, _, _, _, _, _, _]) hPut.then_ (by kernel_rfl) (by kernel_rfl) rfl rfl rfl (Keep.refl _ _) ?_
  show wpHd _ _ [_, _, _, _, _, _, _, _, _, _, _, _, _] a
  have hg := hg.drew
  have hcell := at_keep (w := w.drew) (hg.own_ne hH.cs.lt) hcell
  have hrow : ∀ m u, x[m]? = some u → ∀ w1, Keep v w.drew w1 → w1.cell? (ad.add (i * 14 + m)) = some u := fun m u hu => at_keep (w := w.drew) (hg.own_ne (by rw [block_of_add]; exact hblk)) (hrow m u hu)
  refine mv_c (F := fun l a => wpHd (Keep v w.drew) _ l a) runs_held (d := 29) rfl rfl rfl (by rw [hp.size]; decide) hp.s3 fun a1 l1 vm => ?_
  have hp := hp.lo l1 (by decide)
  have hc := (l1.low 4 (by decide)).trans hc
  refine tt_c (F := fun l a => wpHd (Keep v w.drew) _ l a) runs_held (d := 30) (j := 0) (sz := 14) (ct := 4) ⟨rfl, rfl, rfl, rfl, rfl, rfl, rfl, rfl, rfl, rfl, rfl, rfl⟩ lp_item (by decide) (by decide) (by decide) hp hc hi hcell fun a2 l2 tt => ?_
  have hp := hp.lo l2 (by decide)
  have hc := (l2.low 4 (by decide)).trans hc
  have vm := (l2.low 29 (by decide)).trans vm
  refine fl_c (F := fun l a => wpHd (Keep v w.drew) _ l a) runs_held (d := 34) (s := 33) (off := 9) ⟨rfl, rfl, rfl, rfl, rfl, rfl⟩ (by rw [hp.size]; decide) tt (fp_item_2 _) (by rw [add_of_add]; exact hrow 9 _ e0) fun a3 l3 n0 => ?_
  have hp := hp.lo l3 (by decide)
  have hc := (l3.low 4 (by decide)).trans hc
  have vm := (l3.low 29 (by decide)).trans vm
  refine tt_c (F := fun l a => wpHd (Keep v w.drew) _ l a) runs_held (d := 36) (j := 0) (sz := 14) (ct := 4) ⟨rfl, rfl, rfl, rfl, rfl, rfl, rfl, rfl, rfl, rfl, rfl, rfl⟩ lp_item (by decide) (by decide) (by decide) hp hc hi hcell fun a4 l4 tt => ?_
  have hp := hp.lo l4 (by decide)
  have hc := (l4.low 4 (by decide)).trans hc
  have vm := (l4.low 29 (by decide)).trans vm
  have n0 := (l4.low 35 (by decide)).trans n0
  refine fl_c (F := fun l a => wpHd (Keep v w.drew) _ l a) runs_held (d := 40) (s := 39) (off := 10) ⟨rfl, rfl, rfl, rfl, rfl, rfl⟩ (by rw [hp.size]; decide) tt (fp_item_3 _) (by rw [add_of_add]; exact hrow 10 _ e1) fun a5 l5 n1 => ?_
  have hp := hp.lo l5 (by decide)
  have hc := (l5.low 4 (by decide)).trans hc
  have vm := (l5.low 29 (by decide)).trans vm
  have n0 := (l5.low 35 (by decide)).trans n0
  show Tail3 _ _ _ _ _ a5 w.drew
  refine tail_stepH (Keep.refl _ _) (m := 42) (d0 := 29) (parts := #[(0, .tmp 35), (1, .tmp 41)]) (vs := [.int .i64 z0, .int .i64 z1]) ⟨rfl, rfl, rfl, rfl, rfl, rfl, rfl, rfl, rfl⟩ (by decide) (by rw [hp.size]; decide) (by decide) (by simp) (by simp) (by simp [n0, n1]) (by simp) vm hg hg.le (by omega) fun a' w' v' l' keep eS g' _ => ?_
  have hU : US W hb R i x 0 a' w' := by
    refine ⟨_, ⟨v', ⟨l'.size.trans hp.size, l'.defers.trans hp.defers, (l'.low 1 (by decide)).trans hp.s1, eS⟩, g'⟩, PG.step (os := [9, 10]) CJ.more (PG.start hC (by simpa using hL)) rfl fun m hm y hy => ?_, (keep 4 (by decide) (by decide)).trans hc⟩
    simp only [List.mem_cons, List.not_mem_nil, or_false] at hm
    rcases hm with rfl | rfl
    · rw [e0] at hy; cases hy; simp
    · rw [e1] at hy; cases hy; simp
  show Code.wp _ (Code.seq _ _) _ a' w'
  refine up_loop (ct := 5) (hs := 45) (n := 4) (fun k a w => US W hb R i x k a w) (fun k a w => US W hb R i x (k + 1) a w) (S0 := fun a w => US W hb R i x 0 a w) ?_ ?_ ?_ ?_ hPut hU ?_
  · intro a w Q s hQ
    exact start_pl rfl rfl rfl (by rw [s.size]; decide) fun a' l k v => hQ a' (s.kept l.size l.defers (k 1 (by decide)) (k 3 (by decide)) (k 4 (by decide))) v
  · intro a w k Q hk s hc hQ
    exact head_k (K := 4) ⟨rfl, rfl, rfl, ⟨_, rfl⟩, rfl, rfl⟩ (by rw [s.size]; decide) hc fun a' l v => hQ a' (s.kept l.size l.defers (l.low 1 (by decide)) (l.low 3 (by decide)) (l.low 4 (by decide))) ((l.low 5 (by decide)).trans hc) v
  · intro a w k Q hPut hk s hk' hQ
    obtain ⟨L, ⟨v, hp, hg⟩, hG, hc⟩ := s
    obtain ⟨x', ad, c, hx', hcell, hrow, hfx', hblk⟩ := hH.num hg.below (by decide : 0 < 14) hi0
    obtain rfl : x = x' := by rw [hx] at hx'; cases hx'; rfl
    rw [← hn] at hcell
    have hfl := hG.few
    rw [msU_len] at hfl
    obtain ⟨y, ey⟩ : ∃ y, x[2 + 2 * k]? = some (.int .i64 y) := by
      have : k = 0 ∨ k = 1 ∨ k = 2 ∨ k = 3 := by omega
      rcases this with rfl | rfl | rfl | rfl <;> exact int_at hfx rfl
    refine wp_region_list ?_
    show wpList _ _ _ [_, _, _, _, _, _, _, _, _, _, _, _, _] a w
    refine mv_c (F := fun l a => wpList _ _ _ l a w) runs_list (d := 48) rfl rfl rfl (by rw [hp.size]; decide) hp.s3 fun a1 l1 vm => ?_
    have hp := hp.lo l1 (by decide)
    have hc := (l1.low 4 (by decide)).trans hc
    have hk' := (l1.low 5 (by decide)).trans hk'
    refine out (F := fun l a => wpList _ _ _ l a w) runs_list (d := 49) rfl rfl (by rw [hp.size]; decide) (.pointer (some ⟨hb, 0, none⟩)) (fun w _ => by unfold execOp; simp only [hp.s1, Sem.run_bind, lp_item.fa, Result.andThen_ok, Sem.run_pure]) fun a2 l2 v49 => ?_
    have hp := hp.lo l2 (by decide)
    have hc := (l2.low 4 (by decide)).trans hc
    have hk' := (l2.low 5 (by decide)).trans hk'
    have vm := (l2.low 48 (by decide)).trans vm
    refine ld_c (F := fun l a => wpList _ _ _ l a w) runs_list (d := 50) rfl rfl rfl (by rw [hp.size]; decide) v49 lp_item.ag (at_eq hcell) fun a3 l3 v50 => ?_
    have hp := hp.lo l3 (by decide)
    have hc := (l3.low 4 (by decide)).trans hc
    have hk' := (l3.low 5 (by decide)).trans hk'
    have vm := (l3.low 48 (by decide)).trans vm
    refine mv_c (F := fun l a => wpList _ _ _ l a w) runs_list (d := 51) rfl rfl rfl (by rw [hp.size]; decide) hc fun a4 l4 v51 => ?_
    have hp := hp.lo l4 (by decide)
    have hc := (l4.low 4 (by decide)).trans hc
    have hk' := (l4.low 5 (by decide)).trans hk'
    have vm := (l4.low 48 (by decide)).trans vm
    have v50 := (l4.low 50 (by decide)).trans v50
    refine mv_c (F := fun l a => wpList _ _ _ l a w) runs_list (d := 52) rfl rfl rfl (by rw [hp.size]; decide) hk' fun a5 l5 v52 => ?_
    have hp := hp.lo l5 (by decide)
    have hc := (l5.low 4 (by decide)).trans hc
    have hk' := (l5.low 5 (by decide)).trans hk'
    have vm := (l5.low 48 (by decide)).trans vm
    have v50 := (l5.low 50 (by decide)).trans v50
    have v51 := (l5.low 51 (by decide)).trans v51
    refine ix_c (F := fun l a => wpList _ _ _ l a w) runs_list (d := 53) rfl rfl rfl (by rw [hp.size]; decide) v50 v51 (fun w => lp_item.ix ad n c i w hi) fun a6 l6 v53 => ?_
    have hp := hp.lo l6 (by decide)
    have hc := (l6.low 4 (by decide)).trans hc
    have hk' := (l6.low 5 (by decide)).trans hk'
    have vm := (l6.low 48 (by decide)).trans vm
    have v52 := (l6.low 52 (by decide)).trans v52
    refine fa_c (F := fun l a => wpList _ _ _ l a w) runs_list (d := 54) rfl rfl rfl (by rw [hp.size]; decide) v53 (fp_item_1 _) fun a7 l7 v54 => ?_
    have hp := hp.lo l7 (by decide)
    have hc := (l7.low 4 (by decide)).trans hc
    have hk' := (l7.low 5 (by decide)).trans hk'
    have vm := (l7.low 48 (by decide)).trans vm
    have v52 := (l7.low 52 (by decide)).trans v52
    refine ix_c (F := fun l a => wpList _ _ _ l a w) runs_list (d := 55) rfl rfl rfl (by rw [hp.size]; decide) v54 v52 (fun w => ix_units _ k w hk) fun a8 l8 v55 => ?_
    have hp := hp.lo l8 (by decide)
    have hc := (l8.low 4 (by decide)).trans hc
    have hk' := (l8.low 5 (by decide)).trans hk'
    have vm := (l8.low 48 (by decide)).trans vm
    have hcy : w.cell? (((((ad.add (i * 14)).add 1).add (k * 2))).add 1) = some (.int .i64 y) := by
      rw [add_of_add, add_of_add, add_of_add]
      have := hrow _ _ ey
      have e : i * szJ 0 + (2 + 2 * k) = i * 14 + (1 + (k * 2 + 1)) := by show i * 14 + (2 + 2 * k) = _; omega
      rw [e] at this
      exact this
    refine fl_c (F := fun l a => wpList _ _ _ l a w) runs_list (d := 56) (s := 55) (off := 1) ⟨rfl, rfl, rfl, rfl, rfl, rfl⟩ (by rw [hp.size]; decide) v55 (fp_unit_1 _) (at_eq hcy) fun a9 l9 n0 => ?_
    have hp := hp.lo l9 (by decide)
    have hc := (l9.low 4 (by decide)).trans hc
    have hk' := (l9.low 5 (by decide)).trans hk'
    have vm := (l9.low 48 (by decide)).trans vm
    show wpList _ _ _ [_, _, _] a9 w
    refine tail_step (m := 58) (d0 := 48) (parts := #[(0, .tmp 57)]) (vs := [.int .i64 y]) ⟨rfl, rfl, rfl, rfl, rfl, rfl, rfl, rfl, rfl⟩ (by decide) (by rw [hp.size]; decide) (by decide) (by simp) (by simp) (by simp [n0]) (by simp) vm hg hg.le (by omega) fun a' w' v' l' keep eS g' _ => ?_
    refine hQ a' w' ⟨_, ⟨v', ⟨l'.size.trans hp.size, l'.defers.trans hp.defers, (l'.low 1 (by decide)).trans hp.s1, eS⟩, g'⟩, ?_, (keep 4 (by decide) (by decide)).trans hc⟩ ((keep 5 (by decide) (by decide)).trans hk')
    rw [msU_succ]
    refine PG.step (os := [2 + 2 * k]) CJ.more hG rfl fun m hm u hu => ?_
    obtain rfl : m = 2 + 2 * k := by simpa using hm
    rw [ey] at hu; cases hu; simp
  · intro a w k Q hk s hc hQ
    exact inc_pl (ct := 5) (d := 46) ⟨rfl, rfl, rfl, rfl, ⟨_, rfl⟩, rfl, rfl, rfl, rfl⟩ (by decide) (by rw [s.size]; decide) hc (by omega) fun a' z1 f1 k1 c1 => hQ a' (s.kept z1 f1 (k1 1 (by decide) (by decide)) (k1 3 (by decide) (by decide)) (k1 4 (by decide) (by decide))) c1
  · intro a'' w'' s
    obtain ⟨L', q1, q2, q3⟩ := s
    have hfl := q2.few
    rw [msU_len] at hfl
    have hfl : L'.length ≤ i * 14 + 6 := by simpa using hfl
    exact hQ a'' w'' L' q1 (CJ.succ q2 hx (by decide)) (Nat.le_trans hfl (by simp only [Nat.zero_mul, Nat.zero_add]; omega)) q3
end Go.Proofs.Ytgdoodeibcfcjaa.Wire
namespace Go.Proofs.Ytgdoodeibcfcjaa.Wire
open Go.RowKit Go.Proofs.Ytgdoodeibcfcjaa.NumsPure Go.Proofs.Ytgdoodeibcfcjaa.CPure Go.Proofs.Ytgdoodeibcfcjaa.Own
def ksLn : List K := [.t, .n, .n, .n, .n, .n, .t, .n, .n, .n, .n, .n, .t, .n, .n, .n, .n, .n, .t, .n, .n, .n, .n, .n, .t, .n, .n, .n, .n, .n, .t, .n, .n, .n, .n, .n, .t, .n, .n, .n, .n, .n, .t, .n, .n, .n, .n, .n]
theorem info_ln : (Try.prog.info? 90).map (fun i => (i.zero, i.size, i.bytes)) = some (some (.agg (ksLn.map zeroV).toArray), 48, 448) := by kernel_rfl
/-- The lines of a notice, or an order. -/
def lnOf (x : List Value) : List Value := (x.drop 2).take 48
theorem lnOf_at {x : List Value} {m : Nat} (hm : m < 48) : (lnOf x)[m]? = x[2 + m]? := by
  unfold lnOf
  rw [List.getElem?_take, if_pos hm, List.getElem?_drop]
theorem lnOf_some {x : List Value} {m : Nat} {v : Value} (h : (lnOf x)[m]? = some v) : x[2 + m]? = some v := by
  by_cases hm : m < 48
  · rw [← lnOf_at hm]; exact h
  · exfalso
    have h1 := (List.getElem?_eq_some_iff.1 h).1
    unfold lnOf at h1
    rw [List.length_take] at h1
    omega
theorem fits_ln6 {x : List Value} (h : Fits (ksJ 6) x) : Fits ksLn (lnOf x) := fits_take 48 (fits_drop 2 h)
theorem fits_ln7 {x : List Value} (h : Fits (ksJ 7) x) : Fits ksLn (lnOf x) := fits_take 48 (fits_drop 2 h)
/-- The lists before the notices; of the notices and orders the first i. -/
structure CN (R : Nat → List (List Value)) (i : Nat) (L : List Value) : Prop where
  before : ∀ j', j' < 6 → Cov (offsJ j') L (R j') (R j').length
  n6 : Cov (offsJ 6) L (R 6) (min i (R 6).length)
  n7 : Cov (offsJ 7) L (R 7) (i - (R 6).length)
theorem CN.more {R : Nat → List (List Value)} {i : Nat} : ∀ L L' : List Value, CN R i L → CN R i (L ++ L') := fun L L' h => ⟨fun j' hj => (h.before j' hj).more, h.n6.more, h.n7.more⟩
/-- The i'th of the notices and orders. -/
structure RowAt (R : Nat → List (List Value)) (i : Nat) (x : List Value) : Prop where
  a : i < (R 6).length → (R 6)[i]? = some x
  b : (R 6).length ≤ i → (R 7)[i - (R 6).length]? = some x
theorem CN.succ {R : Nat → List (List Value)} {i N : Nat} {x : List Value} {ms : List Nat} {L : List Value} (h : PG (CN R i) N x ms L) (hx : RowAt R i x) (ho : ∀ m ∈ offsJ 6, m ∈ ms) (ho7 : ∀ m ∈ offsJ 7, m ∈ ms) : CN R (i + 1) L := by
  by_cases hi : i < (R 6).length
  · refine ⟨h.before.before, ?_, ?_⟩
    · have e : min (i + 1) (R 6).length = i + 1 := by omega
      have := h.before.n6
      rw [show min i (R 6).length = i by omega] at this
      rw [e]
      exact this.succ (hx.a hi) fun m hm z hz => h.part m (ho m hm) z hz
    · rw [show i + 1 - (R 6).length = 0 by omega]
      exact Cov.zero
  · refine ⟨h.before.before, ?_, ?_⟩
    · have := h.before.n6
      rw [show min i (R 6).length = (R 6).length by omega] at this
      rw [show min (i + 1) (R 6).length = (R 6).length by omega]
      exact this
    · rw [show i + 1 - (R 6).length = (i - (R 6).length) + 1 by omega]
      exact h.before.n7.succ (hx.b (by omega)) fun m hm z hz => h.part m (ho7 m hm) z hz
/-- The state ahead of round i. -/
def NS (W : World) (hb : Nat) (R : Nat → List (List Value)) (i : Nat) (a : Act) (w : World) : Prop := ∃ L, PS W hb L a w ∧ CN R i L ∧ L.length ≤ 6600000 + i * 40
theorem NS.kept {W w : World} {hb i : Nat} {R : Nat → List (List Value)} {a a' : Act} (h : NS W hb R i a w) (hz : a'.tmps.size = a.tmps.size) (hd : a'.defers = a.defers) (h1 : a'.eval (.tmp 1) = a.eval (.tmp 1)) (h3 : a'.eval (.tmp 3) = a.eval (.tmp 3)) : NS W hb R i a' w := by
  obtain ⟨L, q, g⟩ := h
  exact ⟨L, q.kept hz hd h1 h3, g⟩
theorem NS.size {W w : World} {hb i : Nat} {R : Nat → List (List Value)} {a : Act} (h : NS W hb R i a w) : a.tmps.size = 329 := by
  obtain ⟨L, ⟨v, q, g⟩, _⟩ := h
  exact q.size
theorem NS.start {W w : World} {hb : Nat} {R : Nat → List (List Value)} {a : Act} (h : LS W hb R 6 0 a w) : NS W hb R 0 a w := by
  obtain ⟨L, h1, h2, h3⟩ := h
  refine ⟨L, h1, ⟨h2.before, ?_, ?_⟩, by simpa using h3⟩
  · rw [Nat.zero_min]; exact Cov.zero
  · rw [Nat.zero_sub]; exact Cov.zero
theorem NS.done {W w : World} {hb : Nat} {R : Nat → List (List Value)} {a : Act} (h6 : (R 6).length * 51 ≤ 1048576) (h7 : (R 7).length * 50 ≤ 1048576) (h : NS W hb R ((R 6).length + (R 7).length) a w) : LS W hb R 8 0 a w := by
  obtain ⟨L, h1, h2, h3⟩ := h
  refine ⟨L, h1, ⟨fun j' hj => ?_, Cov.zero⟩, ?_⟩
  · by_cases e6 : j' = 6
    · subst e6
      have := h2.n6
      rw [show min ((R 6).length + (R 7).length) (R 6).length = (R 6).length by omega] at this
      exact this
    · by_cases e7 : j' = 7
      · subst e7
        have := h2.n7
        rw [show (R 6).length + (R 7).length - (R 6).length = (R 7).length by omega] at this
        exact this
      · exact h2.before j' (by omega)
  · rw [Nat.zero_mul]; omega
/-! ### A list's length -/
structure LnOps (S : TypeId) (j d : Nat) (o1 o2 o3 : Oper) : Prop where
  g1 : o1.guard = none
  g2 : o2.guard = none
  g3 : o3.guard = none
  p1 : o1.op = .fieldAddr 37 (.tmp 1) j
  p2 : o2.op = .load S (.tmp d)
  p3 : o3.op = .call { callee := .builtin .len, args := #[.tmp (d + 1)], argTypes := #[S] }
  d1 : o1.dst = some d
  d2 : o2.dst = some (d + 1)
  d3 : o3.dst = some (d + 2)
theorem len_at {S E : TypeId} {A : Option Addr} {n c : Nat} (hu : Try.prog.underlying S = some (.slice E)) (ty : TypeId) (w : World) : (Builtin.len_ #[S] ty #[.slice A n c]).run Try.prog w = .ok (.int .i64 (n : Int)) w := by
  have hu' : Try.prog.underlying S = some (.slice (Try.prog.elem S)) := by
    have : Try.prog.elem S = E := by simp [Program.elem, hu]
    rw [this]; exact hu
  have := run_len_slice (P := Try.prog) (w := w) (t := S) (ty := ty) (base := A) (n := n) (c := c) (h := hu')
  simpa [goInt] using this
section
variable {Sw : World → Prop} {F : List Oper → Act → Prop} {rest : List Oper} {a : Act} {d : Nat}
theorem ln_c (hF : Runs Sw F) {S T E : TypeId} {j sz hb n c : Nat} {A : Option Addr} {v : Value} {o1 o2 o3 : Oper} (ho : LnOps S j d o1 o2 o3) (hT : LP S T j sz) (hu : Try.prog.underlying S = some (.slice E)) (hd : 22 ≤ d) (hz : d + 2 < 329) (hP : PF hb v a)
    (hl : ∀ w, Sw w → w.cell? ⟨hb, j, none⟩ = some (.slice A n c)) (h : ∀ a', Lo d a a' → a'.eval (.tmp (d + 2)) = .int .i64 (n : Int) → F rest a') : F (o1 :: o2 :: o3 :: rest) a := by
  refine out hF ho.g1 ho.d1 (by rw [hP.size]; omega) (.pointer (some ⟨hb, j, none⟩)) (fun w _ => by unfold execOp; simp only [ho.p1, hP.s1, Sem.run_bind, hT.fa, Result.andThen_ok, Sem.run_pure]) fun a1 l1 v1 => ?_
  refine ld_c hF ho.g2 ho.p2 ho.d2 (by rw [l1.size, hP.size]; omega) v1 hT.ag hl fun a2 l2 v2 => ?_
  have q2 : a2.tmps[d + 1]?.getD undef = .slice A n c := by rw [← v2]; simp [Act.eval, Array.getD_eq_getD_getElem?]
  refine out hF ho.g3 ho.d3 (by rw [l2.size, l1.size, hP.size]; omega) (.int .i64 (n : Int)) (fun w _ => ?_) fun a3 l3 v3 => ?_
  · unfold execOp
    simp [go_sem, ho.p3, q2, len_at hu]
  exact h a3 ⟨l3.size.trans (l2.size.trans l1.size), l3.defers.trans (l2.defers.trans l1.defers), fun s hs => (l3.low s (by omega)).trans ((l2.low s (by omega)).trans (l1.low s hs))⟩ v3
/-- Whole numbers: a sum, a difference, a comparison. -/
theorem add_c (hF : Runs Sw F) {s t m n : Nat} {r : TypeId} {o : Oper} (g : o.guard = none) (p : o.op = .binOp .add 3 (.tmp s) (.tmp t) r) (hd : o.dst = some d) (hz : d < a.tmps.size) (hs : a.eval (.tmp s) = .int .i64 (m : Int)) (ht : a.eval (.tmp t) = .int .i64 (n : Int)) (hm : m ≤ 1000000000) (hn : n ≤ 1000000000) (h : ∀ a', Lo d a a' → a'.eval (.tmp d) = .int .i64 ((m + n : Nat) : Int) → F rest a') : F (o :: rest) a := by
  have hwr : IntKind.i64.wrap ((m : Int) + (n : Int)) = ((m + n : Nat) : Int) := by rw [IntWalk.i64_in _ (by omega)]; omega
  have hrun : ∀ w, (binOp .add 3 (.int .i64 (m : Int)) (.int .i64 (n : Int))).run Try.prog w = .ok (.int .i64 ((m + n : Nat) : Int)) w := fun w => by
    simp only [binOp, Op.intArith]
    simp [hwr]
  refine out hF g hd hz (.int .i64 ((m + n : Nat) : Int)) (fun w _ => by unfold execOp; simp only [p, hs, ht]; generalize ((m + n : Nat) : Int) = z at hrun; simp [eqGuard, hrun]) h
theorem sub_c (hF : Runs Sw F) {s t m n : Nat} {r : TypeId} {o : Oper} (g : o.guard = none) (p : o.op = .binOp .sub 3 (.tmp s) (.tmp t) r) (hd : o.dst = some d) (hz : d < a.tmps.size) (hs : a.eval (.tmp s) = .int .i64 (m : Int)) (ht : a.eval (.tmp t) = .int .i64 (n : Int)) (hm : m ≤ 1000000000) (hn : n ≤ m) (h : ∀ a', Lo d a a' → a'.eval (.tmp d) = .int .i64 ((m - n : Nat) : Int) → F rest a') : F (o :: rest) a := by
  have hwr : IntKind.i64.wrap ((m : Int) - (n : Int)) = ((m - n : Nat) : Int) := by rw [IntWalk.i64_in _ (by omega)]; omega
  have hrun : ∀ w, (binOp .sub 3 (.int .i64 (m : Int)) (.int .i64 (n : Int))).run Try.prog w = .ok (.int .i64 ((m - n : Nat) : Int)) w := fun w => by
    simp only [binOp, Op.intArith]
    simp [hwr]
  refine out hF g hd hz (.int .i64 ((m - n : Nat) : Int)) (fun w _ => by unfold execOp; simp only [p, hs, ht]; generalize ((m - n : Nat) : Int) = z at hrun; simp [eqGuard, hrun]) h
theorem lt_c (hF : Runs Sw F) {s t m n : Nat} {r : TypeId} {o : Oper} (g : o.guard = none) (p : o.op = .binOp .lss 3 (.tmp s) (.tmp t) r) (hd : o.dst = some d) (hz : d < a.tmps.size) (hs : a.eval (.tmp s) = .int .i64 (m : Int)) (ht : a.eval (.tmp t) = .int .i64 (n : Int)) (h : ∀ a', Lo d a a' → a'.eval (.tmp d) = .bool (decide (m < n)) → F rest a') : F (o :: rest) a := by
  have hdd : decide ((m : Int) < (n : Int)) = decide (m < n) := by rw [decide_eq_decide]; omega
  refine out hF g hd hz (.bool (decide (m < n))) (fun w _ => by unfold execOp; simp only [p, hs, ht]; simp [go_sem, hdd]) h
end

/-- The lines are laid into their block. -/
structure SvOps (d : Nat) (o1 o2 : Oper) : Prop where
  g1 : o1.guard = none
  g2 : o2.guard = none
  p1 : o1.op = .load 90 (.tmp d)
  p2 : o2.op = .store 90 (.tmp 12) (.tmp (d + 1))
  d1 : o1.dst = some (d + 1)
  d2 : o2.dst = none
theorem sv_list {d nb : Nat} {o1 o2 : Oper} {ops : Array Oper} {y : List Value} {old : List Value} {ad : Addr} {a : Act} {w : World} {Q : Exit → Act → World → Prop} (ho : SvOps d o1 o2) (hd : 22 ≤ d) (hz : d + 1 < a.tmps.size) (hy : Fits ksLn y) (hol : old.length = 48) (hs : a.eval (.tmp d) = .pointer (some ad)) (hc : ∀ m v, y[m]? = some v → w.cell? (ad.add m) = some v) (h12 : a.eval (.tmp 12) = .pointer (some ⟨nb, 0, none⟩)) (hcs : Cs nb 90 old w)
    (h : ∀ a', Lo (d + 1) a a' → Cs nb 90 y (w.setCells nb 0 y) → Q .normal a' (w.setCells nb 0 y)) : wpList Try.prog ops Q [o1, o2] a w := by
  have hyl : y.length = 48 := fits_len hy
  refine wpList_load_at ho.g1 90 (.tmp d) ho.p1 ad hs y _ hc Try.underlying90 rfl (by rw [hyl]; exact size_ofP info_ln) ?_
  rw [ho.d1]
  have l1 := (Lo.refl (d + 1) a).put (d := d + 1) (.agg y.toArray) (Nat.le_refl _)
  have v1 : (a.put (some (d + 1)) (.agg y.toArray)).eval (.tmp (d + 1)) = .agg y.toArray := put_same _ hz
  generalize a.put (some (d + 1)) (.agg y.toArray) = a1 at l1 v1
  refine wpList_storeV ho.g2 90 (.tmp 12) (.tmp (d + 1)) ho.p2 nb 0 (.agg y.toArray) y ((l1.low 12 (by omega)).trans h12) v1 (by simp [Value.cells]) ?_ (by rw [hyl]; exact size_ofP info_ln) (fits_one hy) ?_
  · intro j hj
    rw [hcs.cell, hcs.frozen]
    refine ⟨?_, rfl⟩
    have : j < old.length := by omega
    simp [this]
  rw [ho.d2, put_none]
  refine wpList_nil (h a1 l1 ?_)
  have := Cs.setCells y [] old [] w (by omega) (by simpa using hcs)
  simpa using this
def msL : Nat → List Nat
  | 0 => []
  | k + 1 => msL k ++ [2 + (k * 6 + 1), 2 + (k * 6 + 2), 2 + (k * 6 + 3), 2 + (k * 6 + 4), 2 + (k * 6 + 5)]
theorem msL_len : ∀ k, (msL k).length = 5 * k
  | 0 => rfl
  | k + 1 => by rw [msL, List.length_append, msL_len k]; simp; omega
theorem add0 (b m : Nat) : (⟨b, 0, none⟩ : Addr).add m = ⟨b, m, none⟩ := by unfold Addr.add; split <;> simp_all
theorem fp_line (f : Nat) (hf : f = 1 ∨ f = 2 ∨ f = 3 ∨ f = 4 ∨ f = 5) (b : Addr) (w : World) : (Instr.fieldAt 89 (.pointer (some b)) f).run Try.prog w = .ok (.pointer (some (b.add f))) w := by rcases hf with rfl | rfl | rfl | rfl | rfl <;> simp [go_sem]
theorem ix_lines (b : Addr) (i : Nat) (w : World) (hi : i < 8) : (Instr.indexAt 90 (.pointer (some b)) (.int .i64 (i : Int))).run Try.prog w = .ok (.pointer (some (b.add (i * 6)))) w := by
  have h0 : (0 : Int) ≤ (i : Int) := by omega
  have h1 : (i : Int) < 8 := by omega
  simp [go_sem, h0, h1]
theorem fp_notice_2 (b : Addr) (w : World) : (Instr.fieldAt 92 (.pointer (some b)) 2).run Try.prog w = .ok (.pointer (some (b.add 2))) w := by simp [go_sem]
theorem fp_order_2 (b : Addr) (w : World) : (Instr.fieldAt 95 (.pointer (some b)) 2).run Try.prog w = .ok (.pointer (some (b.add 2))) w := by simp [go_sem]
/-- The inner loop's state. -/
def LI (W : World) (hb : Nat) (R : Nat → List (List Value)) (i nb : Nat) (x : List Value) (k : Nat) (a : Act) (w : World) : Prop := ∃ L, PS W hb L a w ∧ PG (CN R i) (6600000 + i * 40) x (msL k) L ∧ a.eval (.tmp 11) = .int .i64 (i : Int) ∧ a.eval (.tmp 12) = .pointer (some ⟨nb, 0, none⟩) ∧ Cs nb 90 (lnOf x) w
theorem LI.kept {W w : World} {hb i nb k : Nat} {R : Nat → List (List Value)} {x : List Value} {a a' : Act} (h : LI W hb R i nb x k a w) (hz : a'.tmps.size = a.tmps.size) (hd : a'.defers = a.defers) (h1 : a'.eval (.tmp 1) = a.eval (.tmp 1)) (h3 : a'.eval (.tmp 3) = a.eval (.tmp 3)) (h4 : a'.eval (.tmp 11) = a.eval (.tmp 11)) (h5 : a'.eval (.tmp 12) = a.eval (.tmp 12)) : LI W hb R i nb x k a' w := by
  obtain ⟨L, q, g, c, e, f⟩ := h
  exact ⟨L, q.kept hz hd h1 h3, g, h4.trans c, h5.trans e, f⟩
theorem LI.size {W w : World} {hb i nb k : Nat} {R : Nat → List (List Value)} {x : List Value} {a : Act} (h : LI W hb R i nb x k a w) : a.tmps.size = 329 := by
  obtain ⟨L, ⟨v, q, g⟩, _⟩ := h
  exact q.size

/-- The body of the lines' loop. -/
def bodyOf : Code → Code
  | .seq _ (.block _ (.loop (.seq _ (.seq (.block _ b) _)))) => b
  | c => c
noncomputable def bodyBP : Code := bodyOf (partP 5)

set_option maxHeartbeats 4000000 in
set_option maxRecDepth 100000 in
theorem pl_lineloop {W : World} {hb : Nat} {vs : List Value} {R : Nat → List (List Value)} {z : Int} {i nb : Nat} {x : List Value} (hH : HW W hb vs R z) (hfy : Fits ksLn (lnOf x)) (hi : i ≤ 200000000) {a : Act} {w : World} {Q : Exit → Act → World → Prop} (hPut : PutOk Q) (h0 : LI W hb R i nb x 0 a w) (h : ∀ a' w', LI W hb R i nb x 8 a' w' → Q .normal a' w') : (seqRP (seqRP (bodyBP))).wp Try.prog Q a w := by
  refine up_loop (ct := 13) (hs := 179) (n := 8) (fun k a w => LI W hb R i nb x k a w) (fun k a w => LI W hb R i nb x (k + 1) a w) (S0 := fun a w => LI W hb R i nb x 0 a w) ?_ ?_ ?_ ?_ hPut h0 h
  · intro a w Q s hQ
    exact start_pl rfl rfl rfl (by rw [s.size]; decide) fun a' l k v => hQ a' (s.kept l.size l.defers (k 1 (by decide)) (k 3 (by decide)) (k 11 (by decide)) (k 12 (by decide))) v
  · intro a w k Q hk s hc hQ
    exact head_k (K := 8) ⟨rfl, rfl, rfl, ⟨_, rfl⟩, rfl, rfl⟩ (by rw [s.size]; decide) hc fun a' l v => hQ a' (s.kept l.size l.defers (l.low 1 (by decide)) (l.low 3 (by decide)) (l.low 11 (by decide)) (l.low 12 (by decide))) ((l.low 13 (by decide)).trans hc) v
  · intro a w k Q hPut hk s hk' hQ
    obtain ⟨L, ⟨v, hp, hg⟩, hG, hc, h12, hcs⟩ := s
    have hfl := hG.few
    rw [msL_len] at hfl
    have hk8 : k = 0 ∨ k = 1 ∨ k = 2 ∨ k = 3 ∨ k = 4 ∨ k = 5 ∨ k = 6 ∨ k = 7 := by omega
    obtain ⟨y1, e1⟩ : ∃ y, (lnOf x)[k * 6 + 1]? = some (.int .i64 y) := by rcases hk8 with rfl | rfl | rfl | rfl | rfl | rfl | rfl | rfl <;> exact int_at hfy rfl
    obtain ⟨y2, e2⟩ : ∃ y, (lnOf x)[k * 6 + 2]? = some (.int .i64 y) := by rcases hk8 with rfl | rfl | rfl | rfl | rfl | rfl | rfl | rfl <;> exact int_at hfy rfl
    obtain ⟨y3, e3⟩ : ∃ y, (lnOf x)[k * 6 + 3]? = some (.int .i64 y) := by rcases hk8 with rfl | rfl | rfl | rfl | rfl | rfl | rfl | rfl <;> exact int_at hfy rfl
    obtain ⟨y4, e4⟩ : ∃ y, (lnOf x)[k * 6 + 4]? = some (.int .i64 y) := by rcases hk8 with rfl | rfl | rfl | rfl | rfl | rfl | rfl | rfl <;> exact int_at hfy rfl
    obtain ⟨y5, e5⟩ : ∃ y, (lnOf x)[k * 6 + 5]? = some (.int .i64 y) := by rcases hk8 with rfl | rfl | rfl | rfl | rfl | rfl | rfl | rfl <;> exact int_at hfy rfl
    refine held_region (S := Keep v w.drew) (heads := [_, _, _, _, _, _, _, _, _, _, _, _, _, _, _, _, _, _, _, _, _]) hPut (by kernel_rfl) (by kernel_rfl) rfl rfl rfl (Keep.refl _ _) ?_
    show wpHd _ _ [_, _, _, _, _, _, _, _, _, _, _, _, _, _, _, _, _, _, _, _, _] a
    have hg := hg.drew
    have hcs' : Cs nb 90 (lnOf x) w.drew := hcs
    have hcc : ∀ m u, (lnOf x)[m]? = some u → ∀ w1, Keep v w.drew w1 → w1.cell? ⟨nb, m, none⟩ = some u := fun m u hu => at_keep (w := w.drew) (hg.own_cs hcs' (by decide)) ((hcs'.cell m).trans hu)
    refine mv_c (F := fun l a => wpHd (Keep v w.drew) _ l a) runs_held (d := 182) rfl rfl rfl (by rw [hp.size]; decide) hp.s3 fun a1 l1 vm => ?_
    have hp := hp.lo l1 (by decide)
    have hc := (l1.low 11 (by decide)).trans hc
    have h12 := (l1.low 12 (by decide)).trans h12
    have hk' := (l1.low 13 (by decide)).trans hk'
    refine mv_c (F := fun l a => wpHd (Keep v w.drew) _ l a) runs_held (d := 183) rfl rfl rfl (by rw [hp.size]; decide) hk' fun a2 l2 vk => ?_
    have hp := hp.lo l2 (by decide)
    have hc := (l2.low 11 (by decide)).trans hc
    have h12 := (l2.low 12 (by decide)).trans h12
    have hk' := (l2.low 13 (by decide)).trans hk'
    have vm := (l2.low 182 (by decide)).trans vm
    refine ix_c (F := fun l a => wpHd (Keep v w.drew) _ l a) runs_held (d := 184) rfl rfl rfl (by rw [hp.size]; decide) h12 vk (fun w => ix_lines _ k w hk) fun a3 l3 vx => ?_
    have hp := hp.lo l3 (by decide)
    have hc := (l3.low 11 (by decide)).trans hc
    have h12 := (l3.low 12 (by decide)).trans h12
    have hk' := (l3.low 13 (by decide)).trans hk'
    have vm := (l3.low 182 (by decide)).trans vm
    refine fl_c (F := fun l a => wpHd (Keep v w.drew) _ l a) runs_held (d := 185) (s := 184) (off := 1) ⟨rfl, rfl, rfl, rfl, rfl, rfl⟩ (by rw [hp.size]; decide) vx (fp_line 1 (by decide) _) (by rw [add_of_add, add0]; exact hcc _ _ e1) fun a4 l4 n1 => ?_
    have hp := hp.lo l4 (by decide)
    have hc := (l4.low 11 (by decide)).trans hc
    have h12 := (l4.low 12 (by decide)).trans h12
    have hk' := (l4.low 13 (by decide)).trans hk'
    have vm := (l4.low 182 (by decide)).trans vm
    refine mv_c (F := fun l a => wpHd (Keep v w.drew) _ l a) runs_held (d := 187) rfl rfl rfl (by rw [hp.size]; decide) hk' fun a5 l5 vk => ?_
    have hp := hp.lo l5 (by decide)
    have hc := (l5.low 11 (by decide)).trans hc
    have h12 := (l5.low 12 (by decide)).trans h12
    have hk' := (l5.low 13 (by decide)).trans hk'
    have vm := (l5.low 182 (by decide)).trans vm
    have n1 := (l5.low 186 (by decide)).trans n1
    refine ix_c (F := fun l a => wpHd (Keep v w.drew) _ l a) runs_held (d := 188) rfl rfl rfl (by rw [hp.size]; decide) h12 vk (fun w => ix_lines _ k w hk) fun a6 l6 vx => ?_
    have hp := hp.lo l6 (by decide)
    have hc := (l6.low 11 (by decide)).trans hc
    have h12 := (l6.low 12 (by decide)).trans h12
    have hk' := (l6.low 13 (by decide)).trans hk'
    have vm := (l6.low 182 (by decide)).trans vm
    have n1 := (l6.low 186 (by decide)).trans n1
    refine fl_c (F := fun l a => wpHd (Keep v w.drew) _ l a) runs_held (d := 189) (s := 188) (off := 2) ⟨rfl, rfl, rfl, rfl, rfl, rfl⟩ (by rw [hp.size]; decide) vx (fp_line 2 (by decide) _) (by rw [add_of_add, add0]; exact hcc _ _ e2) fun a7 l7 n2 => ?_
    have hp := hp.lo l7 (by decide)
    have hc := (l7.low 11 (by decide)).trans hc
    have h12 := (l7.low 12 (by decide)).trans h12
    have hk' := (l7.low 13 (by decide)).trans hk'
    have vm := (l7.low 182 (by decide)).trans vm
    have n1 := (l7.low 186 (by decide)).trans n1
    refine mv_c (F := fun l a => wpHd (Keep v w.drew) _ l a) runs_held (d := 191) rfl rfl rfl (by rw [hp.size]; decide) hk' fun a8 l8 vk => ?_
    have hp := hp.lo l8 (by decide)
    have hc := (l8.low 11 (by decide)).trans hc
    have h12 := (l8.low 12 (by decide)).trans h12
    have hk' := (l8.low 13 (by decide)).trans hk'
    have vm := (l8.low 182 (by decide)).trans vm
    have n1 := (l8.low 186 (by decide)).trans n1
    have n2 := (l8.low 190 (by decide)).trans n2
    refine ix_c (F := fun l a => wpHd (Keep v w.drew) _ l a) runs_held (d := 192) rfl rfl rfl (by rw [hp.size]; decide) h12 vk (fun w => ix_lines _ k w hk) fun a9 l9 vx => ?_
    have hp := hp.lo l9 (by decide)
    have hc := (l9.low 11 (by decide)).trans hc
    have h12 := (l9.low 12 (by decide)).trans h12
    have hk' := (l9.low 13 (by decide)).trans hk'
    have vm := (l9.low 182 (by decide)).trans vm
    have n1 := (l9.low 186 (by decide)).trans n1
    have n2 := (l9.low 190 (by decide)).trans n2
    refine fl_c (F := fun l a => wpHd (Keep v w.drew) _ l a) runs_held (d := 193) (s := 192) (off := 3) ⟨rfl, rfl, rfl, rfl, rfl, rfl⟩ (by rw [hp.size]; decide) vx (fp_line 3 (by decide) _) (by rw [add_of_add, add0]; exact hcc _ _ e3) fun a10 l10 n3 => ?_
    have hp := hp.lo l10 (by decide)
    have hc := (l10.low 11 (by decide)).trans hc
    have h12 := (l10.low 12 (by decide)).trans h12
    have hk' := (l10.low 13 (by decide)).trans hk'
    have vm := (l10.low 182 (by decide)).trans vm
    have n1 := (l10.low 186 (by decide)).trans n1
    have n2 := (l10.low 190 (by decide)).trans n2
    refine mv_c (F := fun l a => wpHd (Keep v w.drew) _ l a) runs_held (d := 195) rfl rfl rfl (by rw [hp.size]; decide) hk' fun a11 l11 vk => ?_
    have hp := hp.lo l11 (by decide)
    have hc := (l11.low 11 (by decide)).trans hc
    have h12 := (l11.low 12 (by decide)).trans h12
    have hk' := (l11.low 13 (by decide)).trans hk'
    have vm := (l11.low 182 (by decide)).trans vm
    have n1 := (l11.low 186 (by decide)).trans n1
    have n2 := (l11.low 190 (by decide)).trans n2
    have n3 := (l11.low 194 (by decide)).trans n3
    refine ix_c (F := fun l a => wpHd (Keep v w.drew) _ l a) runs_held (d := 196) rfl rfl rfl (by rw [hp.size]; decide) h12 vk (fun w => ix_lines _ k w hk) fun a12 l12 vx => ?_
    have hp := hp.lo l12 (by decide)
    have hc := (l12.low 11 (by decide)).trans hc
    have h12 := (l12.low 12 (by decide)).trans h12
    have hk' := (l12.low 13 (by decide)).trans hk'
    have vm := (l12.low 182 (by decide)).trans vm
    have n1 := (l12.low 186 (by decide)).trans n1
    have n2 := (l12.low 190 (by decide)).trans n2
    have n3 := (l12.low 194 (by decide)).trans n3
    refine fl_c (F := fun l a => wpHd (Keep v w.drew) _ l a) runs_held (d := 197) (s := 196) (off := 4) ⟨rfl, rfl, rfl, rfl, rfl, rfl⟩ (by rw [hp.size]; decide) vx (fp_line 4 (by decide) _) (by rw [add_of_add, add0]; exact hcc _ _ e4) fun a13 l13 n4 => ?_
    have hp := hp.lo l13 (by decide)
    have hc := (l13.low 11 (by decide)).trans hc
    have h12 := (l13.low 12 (by decide)).trans h12
    have hk' := (l13.low 13 (by decide)).trans hk'
    have vm := (l13.low 182 (by decide)).trans vm
    have n1 := (l13.low 186 (by decide)).trans n1
    have n2 := (l13.low 190 (by decide)).trans n2
    have n3 := (l13.low 194 (by decide)).trans n3
    refine mv_c (F := fun l a => wpHd (Keep v w.drew) _ l a) runs_held (d := 199) rfl rfl rfl (by rw [hp.size]; decide) hk' fun a14 l14 vk => ?_
    have hp := hp.lo l14 (by decide)
    have hc := (l14.low 11 (by decide)).trans hc
    have h12 := (l14.low 12 (by decide)).trans h12
    have hk' := (l14.low 13 (by decide)).trans hk'
    have vm := (l14.low 182 (by decide)).trans vm
    have n1 := (l14.low 186 (by decide)).trans n1
    have n2 := (l14.low 190 (by decide)).trans n2
    have n3 := (l14.low 194 (by decide)).trans n3
    have n4 := (l14.low 198 (by decide)).trans n4
    refine ix_c (F := fun l a => wpHd (Keep v w.drew) _ l a) runs_held (d := 200) rfl rfl rfl (by rw [hp.size]; decide) h12 vk (fun w => ix_lines _ k w hk) fun a15 l15 vx => ?_
    have hp := hp.lo l15 (by decide)
    have hc := (l15.low 11 (by decide)).trans hc
    have h12 := (l15.low 12 (by decide)).trans h12
    have hk' := (l15.low 13 (by decide)).trans hk'
    have vm := (l15.low 182 (by decide)).trans vm
    have n1 := (l15.low 186 (by decide)).trans n1
    have n2 := (l15.low 190 (by decide)).trans n2
    have n3 := (l15.low 194 (by decide)).trans n3
    have n4 := (l15.low 198 (by decide)).trans n4
    refine fl_c (F := fun l a => wpHd (Keep v w.drew) _ l a) runs_held (d := 201) (s := 200) (off := 5) ⟨rfl, rfl, rfl, rfl, rfl, rfl⟩ (by rw [hp.size]; decide) vx (fp_line 5 (by decide) _) (by rw [add_of_add, add0]; exact hcc _ _ e5) fun a16 l16 n5 => ?_
    have hp := hp.lo l16 (by decide)
    have hc := (l16.low 11 (by decide)).trans hc
    have h12 := (l16.low 12 (by decide)).trans h12
    have hk' := (l16.low 13 (by decide)).trans hk'
    have vm := (l16.low 182 (by decide)).trans vm
    have n1 := (l16.low 186 (by decide)).trans n1
    have n2 := (l16.low 190 (by decide)).trans n2
    have n3 := (l16.low 194 (by decide)).trans n3
    have n4 := (l16.low 198 (by decide)).trans n4
    show Tail3 _ _ _ _ _ a16 w.drew
    refine tail_stepH (Keep.refl _ _) (m := 203) (d0 := 182) (parts := #[(0, .tmp 186), (1, .tmp 190), (2, .tmp 194), (3, .tmp 198), (4, .tmp 202)]) (vs := [.int .i64 y1, .int .i64 y2, .int .i64 y3, .int .i64 y4, .int .i64 y5]) ⟨rfl, rfl, rfl, rfl, rfl, rfl, rfl, rfl, rfl⟩ (by decide) (by rw [hp.size]; decide) (by decide) (by simp) (by simp) (by simp [n1, n2, n3, n4, n5]) (by simp) vm hg hg.le (by omega) fun a' w' v' l' keep eS g' kc => ?_
    refine hQ a' w' ⟨_, ⟨v', ⟨l'.size.trans hp.size, l'.defers.trans hp.defers, (l'.low 1 (by decide)).trans hp.s1, eS⟩, g'⟩, ?_, (keep 11 (by decide) (by decide)).trans hc, (keep 12 (by decide) (by decide)).trans h12, kc _ _ _ hcs' (by decide)⟩ ((keep 13 (by decide) (by decide)).trans hk')
    rw [msL]
    refine PG.step (os := [2 + (k * 6 + 1), 2 + (k * 6 + 2), 2 + (k * 6 + 3), 2 + (k * 6 + 4), 2 + (k * 6 + 5)]) CN.more hG rfl fun m hm u hu => ?_
    have hm' : m = 2 + (k * 6 + 1) ∨ m = 2 + (k * 6 + 2) ∨ m = 2 + (k * 6 + 3) ∨ m = 2 + (k * 6 + 4) ∨ m = 2 + (k * 6 + 5) := by simpa using hm
    rcases hm' with rfl | rfl | rfl | rfl | rfl
    · rw [lnOf_some e1] at hu; cases hu; simp
    · rw [lnOf_some e2] at hu; cases hu; simp
    · rw [lnOf_some e3] at hu; cases hu; simp
    · rw [lnOf_some e4] at hu; cases hu; simp
    · rw [lnOf_some e5] at hu; cases hu; simp
  · intro a w k Q hk s hc hQ
    exact inc_pl (ct := 13) (d := 180) ⟨rfl, rfl, rfl, rfl, ⟨_, rfl⟩, rfl, rfl, rfl, rfl⟩ (by decide) (by rw [s.size]; decide) hc (by omega) fun a' z1 f1 k1 c1 => hQ a' (s.kept z1 f1 (k1 1 (by decide) (by decide)) (k1 3 (by decide) (by decide)) (k1 11 (by decide) (by decide)) (k1 12 (by decide) (by decide))) c1
structure Head9 (o1 o2 o3 o4 o5 o6 o7 o8 o9 : Oper) : Prop where
  g1 : o1.guard = none
  p1 : o1.op = .move (.tmp 11)
  d1 : o1.dst = some 146
  l6 : LnOps 28 6 147 o2 o3 o4
  l7 : LnOps 29 7 150 o5 o6 o7
  g8 : o8.guard = none
  p8 : ∃ r, o8.op = .binOp .add 3 (.tmp 149) (.tmp 152) r
  d8 : o8.dst = some 153
  g9 : o9.guard = none
  p9 : ∃ r, o9.op = .binOp .lss 3 (.tmp 146) (.tmp 153) r
  d9 : o9.dst = some 154
theorem head9 {o1 o2 o3 o4 o5 o6 o7 o8 o9 : Oper} {id i hb : Nat} {W : World} {vs : List Value} {R : Nat → List (List Value)} {z : Int} {L : List Value} {a : Act} {w : World} {Q : Exit → Act → World → Prop} (ho : Head9 o1 o2 o3 o4 o5 o6 o7 o8 o9) (hH : HW W hb vs R z) (hP : PS W hb L a w) (hc : a.eval (.tmp 11) = .int .i64 (i : Int))
    (h : ∀ a', Lo 146 a a' → a'.eval (.tmp 154) = .bool (decide (i < (R 6).length + (R 7).length)) → Q .normal a' w) : (Code.region id #[o1, o2, o3, o4, o5, o6, o7, o8, o9] false).wp Try.prog Q a w := by
  obtain ⟨v, hp, hg⟩ := hP
  obtain ⟨A6, c6, h6, r6⟩ := hH.at hg.below (by decide : 6 < 14)
  obtain ⟨A7, c7, h7, r7⟩ := hH.at hg.below (by decide : 7 < 14)
  have f6 := hH.few (by decide : 6 < 14)
  have f7 := hH.few (by decide : 7 < 14)
  obtain ⟨n6, e6⟩ : ∃ n, n = (R 6).length := ⟨_, rfl⟩
  obtain ⟨n7, e7⟩ : ∃ n, n = (R 7).length := ⟨_, rfl⟩
  rw [← e6] at h6 f6 h
  rw [← e7] at h7 f7 h
  refine wp_region_list ?_
  show wpList _ _ _ [o1, o2, o3, o4, o5, o6, o7, o8, o9] a w
  refine mv_c (F := fun l a => wpList _ _ _ l a w) runs_list ho.g1 ho.p1 ho.d1 (by rw [hp.size]; decide) hc fun a1 l1 v1 => ?_
  have hp := hp.lo l1 (by decide)
  refine ln_c (F := fun l a => wpList _ _ _ l a w) runs_list ho.l6 lp_notice Try.underlying28 (by decide) (by decide) hp (at_eq h6) fun a2 l2 v2 => ?_
  have hp := hp.lo l2 (by decide)
  refine ln_c (F := fun l a => wpList _ _ _ l a w) runs_list ho.l7 lp_order Try.underlying29 (by decide) (by decide) hp (at_eq h7) fun a3 l3 v3 => ?_
  have hp := hp.lo l3 (by decide)
  obtain ⟨r8, p8⟩ := ho.p8
  obtain ⟨r9, p9⟩ := ho.p9
  refine add_c (F := fun l a => wpList _ _ _ l a w) runs_list ho.g8 p8 ho.d8 (by rw [hp.size]; decide) ((l3.low 149 (by decide)).trans v2) v3 (by omega) (by omega) fun a4 l4 v4 => ?_
  have hp := hp.lo l4 (by decide)
  refine lt_c (F := fun l a => wpList _ _ _ l a w) runs_list ho.g9 p9 ho.d9 (by rw [hp.size]; decide) ((l4.low 146 (by decide)).trans ((l3.low 146 (by decide)).trans ((l2.low 146 (by decide)).trans v1))) v4 fun a5 l5 v5 => ?_
  exact wpList_nil (h a5 ⟨l5.size.trans (l4.size.trans (l3.size.trans (l2.size.trans l1.size))), l5.defers.trans (l4.defers.trans (l3.defers.trans (l2.defers.trans l1.defers))), fun s hs => (l5.low s (by omega)).trans ((l4.low s (by omega)).trans ((l3.low s (by omega)).trans ((l2.low s (by omega)).trans (l1.low s hs))))⟩ v5)
set_option maxHeartbeats 4000000 in
set_option maxRecDepth 100000 in
/-- The choice between notice and order. -/
theorem pl_choose {W : World} {hb : Nat} {vs : List Value} {R : Nat → List (List Value)} {z : Int} {i nb : Nat} {v : Value} {old : List Value} (hH : HW W hb vs R z) (hi : i < (R 6).length + (R 7).length) {a : Act} {w : World} {Q : Exit → Act → World → Prop} (hp : PF hb v a) (hB : Below W.heap.size W w) (hc : a.eval (.tmp 11) = .int .i64 (i : Int)) (h12 : a.eval (.tmp 12) = .pointer (some ⟨nb, 0, none⟩)) (hcs : Cs nb 90 old w) (hol : old.length = 48)
    (h : ∀ a' x, PF hb v a' → a'.eval (.tmp 11) = .int .i64 (i : Int) → a'.eval (.tmp 12) = .pointer (some ⟨nb, 0, none⟩) → RowAt R i x → Fits ksLn (lnOf x) → Cs nb 90 (lnOf x) (w.setCells nb 0 (lnOf x)) → Q .normal a' (w.setCells nb 0 (lnOf x))) : (seqLP (seqRP bodyBP)).wp Try.prog Q a w := by
  have f6 := hH.few (by decide : 6 < 14)
  have f7 := hH.few (by decide : 7 < 14)
  obtain ⟨A6, c6, h6, r6⟩ := hH.at hB (by decide : 6 < 14)
  obtain ⟨n6, e6⟩ : ∃ n, n = (R 6).length := ⟨_, rfl⟩
  rw [← e6] at h6 f6
  refine wp_seq ?_
  show Code.wp _ (Code.region _ _ _) _ a w
  refine wp_region_list ?_
  show wpList _ _ _ [_, _, _, _, _] a w
  refine mv_c (F := fun l a => wpList _ _ _ l a w) runs_list (d := 157) rfl rfl rfl (by rw [hp.size]; decide) hc fun a1 l1 v1 => ?_
  have hp := hp.lo l1 (by decide)
  refine ln_c (F := fun l a => wpList _ _ _ l a w) runs_list (d := 158) ⟨rfl, rfl, rfl, rfl, rfl, rfl, rfl, rfl, rfl⟩ lp_notice Try.underlying28 (by decide) (by decide) hp (at_eq h6) fun a2 l2 v2 => ?_
  have hp := hp.lo l2 (by decide)
  refine lt_c (F := fun l a => wpList _ _ _ l a w) runs_list (d := 161) rfl rfl rfl (by rw [hp.size]; decide) ((l2.low 157 (by decide)).trans v1) v2 fun a3 l3 v3 => ?_
  have hp := hp.lo l3 (by decide)
  have hc := (l3.low 11 (by decide)).trans ((l2.low 11 (by decide)).trans ((l1.low 11 (by decide)).trans hc))
  have h12 := (l3.low 12 (by decide)).trans ((l2.low 12 (by decide)).trans ((l1.low 12 (by decide)).trans h12))
  refine wpList_nil ?_
  show Code.wp _ (Code.cond _ _ _) _ a3 w
  by_cases hlt : i < n6
  · refine wp_cond_true (by rw [v3]; simp [hlt]) ?_
    obtain ⟨x, ad, c, hx, hcell, hrow, hfx, hblk⟩ := hH.num hB (by decide : 6 < 14) (e6 ▸ hlt)
    rw [← e6] at hcell
    refine wp_region_list ?_
    show wpList _ _ _ [_, _, _, _, _, _, _] a3 w
    refine tt_c (F := fun l a => wpList _ _ _ l a w) runs_list (d := 162) (j := 6) (sz := 51) (ct := 11) ⟨rfl, rfl, rfl, rfl, rfl, rfl, rfl, rfl, rfl, rfl, rfl, rfl⟩ lp_notice (by decide) (by decide) (by decide) hp hc hlt (at_eq hcell) fun a4 l4 v4 => ?_
    have hp := hp.lo l4 (by decide)
    have hc := (l4.low 11 (by decide)).trans hc
    have h12 := (l4.low 12 (by decide)).trans h12
    refine fa_c (F := fun l a => wpList _ _ _ l a w) runs_list (d := 166) rfl rfl rfl (by rw [hp.size]; decide) v4 (fp_notice_2 _) fun a5 l5 v5 => ?_
    have hp := hp.lo l5 (by decide)
    have hc := (l5.low 11 (by decide)).trans hc
    have h12 := (l5.low 12 (by decide)).trans h12
    refine sv_list (d := 166) ⟨rfl, rfl, rfl, rfl, rfl, rfl⟩ (by decide) (by rw [hp.size]; decide) (fits_ln6 hfx) hol v5 (fun m u hu => ?_) h12 hcs fun a6 l6 hcs' => ?_
    · rw [add_of_add, add_of_add, ← Nat.add_assoc]
      have := hrow _ _ (lnOf_some hu)
      rw [← Nat.add_assoc] at this
      exact this
    exact h a6 x (hp.lo l6 (by decide)) ((l6.low 11 (by decide)).trans hc) ((l6.low 12 (by decide)).trans h12) ⟨fun _ => hx, fun q => by omega⟩ (fits_ln6 hfx) hcs'
  · refine wp_cond_false (by rw [v3]; simp [hlt]) ?_
    have hlt7 : i - n6 < (R 7).length := by omega
    obtain ⟨x, ad, c, hx, hcell, hrow, hfx, hblk⟩ := hH.num hB (by decide : 7 < 14) hlt7
    obtain ⟨n7, e7⟩ : ∃ n, n = (R 7).length := ⟨_, rfl⟩
    rw [← e7] at hcell hlt7
    refine wp_region_list ?_
    show wpList _ _ _ [_, _, _, _, _, _, _, _, _, _, _] a3 w
    refine out (F := fun l a => wpList _ _ _ l a w) runs_list (d := 168) rfl rfl (by rw [hp.size]; decide) (.pointer (some ⟨hb, 7, none⟩)) (fun w _ => by unfold execOp; simp only [hp.s1, Sem.run_bind, lp_order.fa, Result.andThen_ok, Sem.run_pure]) fun a4 l4 v4 => ?_
    have hp := hp.lo l4 (by decide)
    have hc := (l4.low 11 (by decide)).trans hc
    have h12 := (l4.low 12 (by decide)).trans h12
    refine ld_c (F := fun l a => wpList _ _ _ l a w) runs_list (d := 169) rfl rfl rfl (by rw [hp.size]; decide) v4 lp_order.ag (at_eq hcell) fun a5 l5 v169 => ?_
    have hp := hp.lo l5 (by decide)
    have hc := (l5.low 11 (by decide)).trans hc
    have h12 := (l5.low 12 (by decide)).trans h12
    refine mv_c (F := fun l a => wpList _ _ _ l a w) runs_list (d := 170) rfl rfl rfl (by rw [hp.size]; decide) hc fun a6 l6 v170 => ?_
    have hp := hp.lo l6 (by decide)
    have hc := (l6.low 11 (by decide)).trans hc
    have h12 := (l6.low 12 (by decide)).trans h12
    have v169 := (l6.low 169 (by decide)).trans v169
    refine ln_c (F := fun l a => wpList _ _ _ l a w) runs_list (d := 171) ⟨rfl, rfl, rfl, rfl, rfl, rfl, rfl, rfl, rfl⟩ lp_notice Try.underlying28 (by decide) (by decide) hp (at_eq h6) fun a7 l7 v173 => ?_
    have hp := hp.lo l7 (by decide)
    have hc := (l7.low 11 (by decide)).trans hc
    have h12 := (l7.low 12 (by decide)).trans h12
    have v169 := (l7.low 169 (by decide)).trans v169
    have v170 := (l7.low 170 (by decide)).trans v170
    refine sub_c (F := fun l a => wpList _ _ _ l a w) runs_list (d := 174) rfl rfl rfl (by rw [hp.size]; decide) v170 v173 (by omega) (by omega) fun a8 l8 v174 => ?_
    have hp := hp.lo l8 (by decide)
    have hc := (l8.low 11 (by decide)).trans hc
    have h12 := (l8.low 12 (by decide)).trans h12
    have v169 := (l8.low 169 (by decide)).trans v169
    refine ix_c (F := fun l a => wpList _ _ _ l a w) runs_list (d := 175) (sz := 50) rfl rfl rfl (by rw [hp.size]; decide) v169 v174 (fun w => lp_order.ix ad n7 c (i - n6) w hlt7) fun a9 l9 v175 => ?_
    have hp := hp.lo l9 (by decide)
    have hc := (l9.low 11 (by decide)).trans hc
    have h12 := (l9.low 12 (by decide)).trans h12
    refine fa_c (F := fun l a => wpList _ _ _ l a w) runs_list (d := 176) rfl rfl rfl (by rw [hp.size]; decide) v175 (fp_order_2 _) fun a10 l10 v176 => ?_
    have hp := hp.lo l10 (by decide)
    have hc := (l10.low 11 (by decide)).trans hc
    have h12 := (l10.low 12 (by decide)).trans h12
    refine sv_list (d := 176) ⟨rfl, rfl, rfl, rfl, rfl, rfl⟩ (by decide) (by rw [hp.size]; decide) (fits_ln7 hfx) hol v176 (fun m u hu => ?_) h12 hcs fun a11 l11 hcs' => ?_
    · rw [add_of_add, add_of_add, ← Nat.add_assoc]
      have := hrow _ _ (lnOf_some hu)
      rw [← Nat.add_assoc] at this
      exact this
    exact h a11 x (hp.lo l11 (by decide)) ((l11.low 11 (by decide)).trans hc) ((l11.low 12 (by decide)).trans h12) ⟨fun q => by omega, fun _ => e6 ▸ hx⟩ (fits_ln7 hfx) hcs'
set_option maxHeartbeats 4000000 in
set_option maxRecDepth 100000 in
theorem pl_lines {W : World} {hb : Nat} {vs : List Value} {R : Nat → List (List Value)} {z : Int} (hH : HW W hb vs R z) {a : Act} {w : World} {Q : Exit → Act → World → Prop} (hPut : PutOk Q) (h0 : LS W hb R 6 0 a w) (h : ∀ a' w', LS W hb R 8 0 a' w' → Q .normal a' w') : (partP 5).wp Try.prog Q a w := by
  have f6 := hH.few (by decide : 6 < 14)
  have f7 := hH.few (by decide : 7 < 14)
  refine up_loop (ct := 11) (hs := 154) (n := (R 6).length + (R 7).length) (fun i a w => NS W hb R i a w) (fun i a w => NS W hb R (i + 1) a w) (S0 := fun a w => NS W hb R 0 a w) ?_ ?_ ?_ ?_ hPut (NS.start h0) fun a' w' s => h a' w' (NS.done (hH.cells 6 (by decide)) (hH.cells 7 (by decide)) s)
  · intro a w Q s hQ
    exact start_pl rfl rfl rfl (by rw [s.size]; decide) fun a' l k v => hQ a' (s.kept l.size l.defers (k 1 (by decide)) (k 3 (by decide))) v
  · intro a w i Q hi s hc hQ
    obtain ⟨L, s1, s2⟩ := s
    exact head9 ⟨rfl, rfl, rfl, ⟨rfl, rfl, rfl, rfl, rfl, rfl, rfl, rfl, rfl⟩, ⟨rfl, rfl, rfl, rfl, rfl, rfl, rfl, rfl, rfl⟩, rfl, ⟨_, rfl⟩, rfl, rfl, ⟨_, rfl⟩, rfl⟩ hH s1 hc fun a' l v => hQ a' (NS.kept ⟨L, s1, s2⟩ l.size l.defers (l.low 1 (by decide)) (l.low 3 (by decide))) ((l.low 11 (by decide)).trans hc) v
  · intro a w i Q hPut hi s hc hQ
    obtain ⟨L, ⟨v, hp, hg⟩, hC, hL⟩ := s
    show Code.wp _ bodyBP _ a w
    refine wp_seq (y := seqRP bodyBP) ?_
    show Code.wp _ (Code.region _ _ _) _ a w
    refine wp_region_list ?_
    show wpList _ _ _ [_] a w
    have hrun : ∀ o : Oper, o.op = .alloc 90 → (execOp a.eval o).run Try.prog w = .ok (.value (.pointer (some ⟨w.heap.size, 0, none⟩))) (w.alloc (.cells (ksLn.map zeroV).toArray 90)) := fun o ho => by
      unfold execOp
      simp [ho, Instr.alloc, Sem.run_bind, zero_ofP info_ln w, newVar, newRow, Value.cells, go_sem]
    refine Great.wpList_allocTo rfl (some 12) rfl (.pointer (some ⟨w.heap.size, 0, none⟩)) _ (hrun _ rfl) ?_
    refine wpList_nil ?_
    have v12 : (a.put (some 12) (.pointer (some ⟨w.heap.size, 0, none⟩))).eval (.tmp 12) = .pointer (some ⟨w.heap.size, 0, none⟩) := put_same _ (by rw [hp.size]; decide)
    have hc1 : (a.put (some 12) (.pointer (some ⟨w.heap.size, 0, none⟩))).eval (.tmp 11) = .int .i64 (i : Int) := (put_other _ (by decide)).trans hc
    have hp1 := hp.put (d := 12) (.pointer (some ⟨w.heap.size, 0, none⟩)) (by decide)
    generalize a.put (some 12) (.pointer (some ⟨w.heap.size, 0, none⟩)) = a1 at v12 hc1 hp1
    have hcs : Cs w.heap.size 90 (ksLn.map zeroV) (w.alloc (.cells (ksLn.map zeroV).toArray 90)) := cs_alloc _ _ _ _ rfl
    have hBw := alloc_below w (.cells (ksLn.map zeroV).toArray 90)
    generalize w.alloc (.cells (ksLn.map zeroV).toArray 90) = w1 at hcs hBw
    obtain ⟨nb, hnb⟩ : ∃ nb, nb = w.heap.size := ⟨_, rfl⟩
    rw [← hnb] at hcs v12
    show Code.wp _ (seqRP bodyBP) _ a1 w1
    refine wp_seq (x := seqLP (seqRP bodyBP)) (y := seqRP (seqRP bodyBP)) ?_
    refine pl_choose hH hi hp1 (hg.below.trans (hBw.mono hg.le)) hc1 v12 hcs (by rfl) fun a2 x hp2 hc2 v12 hx hfy hcs' => ?_
    have hB2 : Below w.heap.size w (w1.setCells nb 0 (lnOf x)) := below_setCells hBw (by omega) _ _
    generalize w1.setCells nb 0 (lnOf x) = w2 at hcs' hB2
    show Code.wp _ (seqRP (seqRP bodyBP)) _ a2 w2
    refine pl_lineloop hH hfy (by omega) hPut ⟨L, ⟨v, hp2, hg.later hg.le hB2⟩, PG.start hC hL, hc2, v12, hcs'⟩ fun a3 w3 s => ?_
    obtain ⟨L', q1, q2, q3, q4, q5⟩ := s
    have hfl := q2.few
    rw [msL_len] at hfl
    exact hQ a3 w3 ⟨L', q1, CN.succ q2 hx (by decide) (by decide), by omega⟩ q3
  · intro a w i Q hi s hc hQ
    exact inc_pl (ct := 11) (d := 155) ⟨rfl, rfl, rfl, rfl, ⟨_, rfl⟩, rfl, rfl, rfl, rfl⟩ (by decide) (by rw [s.size]; decide) hc (by omega) fun a' z1 f1 k1 c1 => hQ a' (s.kept z1 f1 (k1 1 (by decide) (by decide)) (k1 3 (by decide) (by decide))) c1

end Go.Proofs.Ytgdoodeibcfcjaa.Wire
namespace Go.Proofs.Ytgdoodeibcfcjaa.Wire
open Go.RowKit Go.Proofs.Ytgdoodeibcfcjaa.NumsPure Go.Proofs.Ytgdoodeibcfcjaa.CPure Go.Proofs.Ytgdoodeibcfcjaa.Own
theorem run_boxP {o : Oper} {T : TypeId} {cs : Array Value} {ρ : Operand → Value} {x : Operand} (p : o.op = .box T x) (hx : ρ x = .agg cs) (w : World) : (execOp ρ o).run Try.prog w = .ok (.value (.pointer (some ⟨w.heap.size, 0, none⟩))) (w.alloc (.cells cs T)) := by
  unfold execOp
  simp [p, hx, Instr.box, Sem.run_bind, newVar, newRow, Value.cells, go_sem]
/-- Numbers laid into a row and appended; what comes then. -/
structure Tail2 (m d0 k : Nat) (parts : Array (Nat × Operand)) (t1 t2 : Oper) : Prop where
  g1 : t1.guard = none
  g2 : t2.guard = none
  p1 : t1.op = .buildSlice 42 k parts
  p2 : t2.op = .call { callee := .builtin .append, args := #[.tmp d0, .tmp m], argTypes := #[42, 42] }
  d1 : t1.dst = some m
  d2 : t2.dst = some (m + 1)
theorem tail2_list {m d0 : Nat} {parts : Array (Nat × Operand)} {t1 t2 : Oper} {rest : List Oper} {ops : Array Oper} {B : Nat} {L vs : List Value} {v : Value} {w0 : World} {a : Act} {w : World} {Q : Exit → Act → World → Prop} (ho : Tail2 m d0 vs.length parts t1 t2) (hm : 22 ≤ m) (hz : m + 1 < a.tmps.size) (hd0 : d0 < m) (hv0 : 0 < vs.length) (hv5 : vs.length ≤ 5)
    (hpa : (parts.map fun (i, x) => (i, a.eval x)).toList = (vs.zipIdx 0).map fun x => (x.2, x.1)) (hvi : ∀ u ∈ vs, ∃ z, u = .int .i64 z) (h3 : a.eval (.tmp d0) = v) (hG : Gat B L v w0 w) (hB : B ≤ w.heap.size) (hL : L.length ≤ 1000000000000)
    (h : ∀ a' w' v', a'.tmps.size = a.tmps.size → a'.defers = a.defers → a'.eval (.tmp (m + 1)) = v' → Gat B (L ++ vs) v' w0 w' → wpList Try.prog ops Q rest a' w') : wpList Try.prog ops Q (t1 :: t2 :: rest) a w := by
  obtain ⟨i0, hI0, hz0, hz1, hz2⟩ := infoParts info_intP
  have hone : ∀ u ∈ vs, u.oneCell' = true := fun u hu => by obtain ⟨z, rfl⟩ := hvi u hu; rfl
  have hcells : ∀ u ∈ vs, u.cells = #[u] := fun u hu => by obtain ⟨z, rfl⟩ := hvi u hu; rfl
  refine wpList_buildSlice ho.g1 42 3 vs.length parts ho.p1 vs.toArray i0 _ Try.underlying42 hI0 hz0 (by rw [hz1]; omega) (by rw [hz1]; omega) ?_ ?_
  · rw [hpa, hz1]
    exact fill_ints vs hcells _ (by simp)
  rw [ho.d1]
  have v1 : (a.put (some m) (.slice (some ⟨w.heap.size, 0, none⟩) vs.length vs.length)).eval (.tmp m) = .slice (some ⟨w.heap.size, 0, none⟩) vs.length vs.length := put_same _ (by omega)
  have v1b : (a.put (some m) (.slice (some ⟨w.heap.size, 0, none⟩) vs.length vs.length)).eval (.tmp d0) = v := (put_other _ (by omega)).trans h3
  have hs1 := put_size a (some m) (.slice (some ⟨w.heap.size, 0, none⟩) vs.length vs.length)
  have hdf1 := put_defers a (some m) (.slice (some ⟨w.heap.size, 0, none⟩) vs.length vs.length)
  generalize a.put (some m) (.slice (some ⟨w.heap.size, 0, none⟩) vs.length vs.length) = a1 at v1 v1b hs1 hdf1
  refine wpList_append_lies _ ho.g2 (.tmp d0) (.tmp m) 42 ho.p2 B 3 i0 _ 1 8 Try.underlying42 hI0 hz0 hz1 hz2 (by rfl) (by decide) v L.length L v1b (hG.own.alloc _) ⟨w.heap.size, 0, none⟩ vs.length vs.length vs v1 (by omega)
    (World.news_of_block (cs := vs.toArray) (t := 3) (fr := (0, 0)) (heap_alloc_new w _)) hone (by omega) (by unfold maxLen; omega) (by omega) (by simp; omega) (w.heap.size + 1) (by simp) ?_
  intro gg cap wB hown hgrow hat hlt
  rw [ho.d2]
  refine h _ wB _ ((put_size _ _ _).trans hs1) ((put_defers _ _ _).trans hdf1) (put_same _ (by rw [hs1]; omega)) ⟨?_, fun u hu => ?_, ?_⟩
  · rw [List.length_append]; exact hown
  · rcases List.mem_append.1 hu with q | q
    · exact hG.int u q
    · exact hvi u q
  · exact (hG.below.alloc hB _).grown hgrow (by simp; omega) (fun k hk => (hG.own.lt k hk).1)
theorem flat1 : ∀ L : List Value, (L.map fun u => [u]).flatten = L
  | [] => rfl
  | x :: L => by simp [flat1 L]
theorem gat_row {B : Nat} {L : List Value} {v : Value} {w0 w : World} (h : Gat B L v w0 w) (hl : L.length ≤ 100000000) : ∃ A c, v = .slice A (L.map fun u => [u]).length c ∧ RowA w A 1 ks_int c (L.map fun u => [u]) := by
  refine own_rowA (B := B) (T := 3) (ks := ks_int) (rows := L.map fun u => [u]) ?_ ?_ rfl (by simpa using hl)
  · rw [List.length_map, flat1 L]
    exact h.own
  · intro x hx
    obtain ⟨u, hu, rfl⟩ := List.mem_map.1 hx
    obtain ⟨y, rfl⟩ := h.int u hu
    exact ⟨_, [], rfl, ⟨y, rfl⟩, rfl⟩
theorem cf_wide (vals : Array Value) (w : World) : (callFunc 17 vals).run Try.prog w = .ok (.enter 17 vals) w := by
  simp [go_sem]
theorem fp_house_14 (b : Addr) (w : World) : (Instr.fieldAt 37 (.pointer (some b)) 14).run Try.prog w = .ok (.pointer (some (b.add 14))) w := by simp [go_sem]
/-- All numbers of a house are their own. -/
def Wides (R : Nat → List (List Value)) (z : Int) : Prop := (∀ j, j < 14 → ∀ x ∈ R j, ∀ m ∈ offsJ j, ∀ y, x[m]? = some (.int .i64 y) → InW y) ∧ InW z
theorem res_P {a : Act} {w : World} {b : Bool} (e2 : a.eval (.tmp 2) = .bool b) : (results Try.f19 a.tmps).run Try.prog w = .ok (.bool b) w := by
  have er : Try.f19.results = #[.tmp 2] := rfl
  unfold results
  rw [er]
  have e2' : a.tmps[2]?.getD undef = .bool b := by rw [← e2]; simp [Act.eval, Array.getD_eq_getD_getElem?]
  simp [Sem.run_bind, e2']
theorem end_list {o : Oper} {ops : Array Oper} {b : Bool} {a : Act} {w : World} {Q : Exit → Act → World → Prop} (g : o.guard = none) (p : o.op = .assign (.tmp 328)) (d : o.dst = some 2) (hz : 328 < a.tmps.size) (hd : a.defers = []) (h : ∀ a2, a2.defers = [] → a2.eval (.tmp 2) = .bool b → Q .normal a2 w) : wpList Try.prog ops Q [o] (a.put (some 328) (.bool b)) w := by
  have e1 : (a.put (some 328) (.bool b)).eval (.tmp 328) = .bool b := put_same _ hz
  have s1 := put_size a (some 328) (.bool b)
  have d1 := (put_defers a (some 328) (.bool b)).trans hd
  generalize a.put (some 328) (.bool b) = a1 at e1 s1 d1
  refine wpList_mv g (.tmp 328) (.inr p) (wpList_nil ?_)
  rw [e1, d]
  exact h _ ((put_defers _ _ _).trans d1) (put_same _ (by omega))
set_option maxHeartbeats 400000 in
set_option maxRecDepth 100000 in
theorem plain_end {W : World} {hb : Nat} {vs : List Value} {R : Nat → List (List Value)} {z : Int} (hH : HW W hb vs R z) {a : Act} {w : World} {u : World} (hu : Below u.heap.size u W) (h0 : LS W hb R 14 0 a w) : (dropP 13 bodyP).wp Try.prog (bodyPost Try.prog Try.f19 (YesIf (Wides R z) u)) a w := by
  obtain ⟨L, ⟨v, hp, hg⟩, hC, hL⟩ := h0
  have hL' : L.length ≤ 15400000 := by simpa using hL
  refine wp_seq ?_
  show Code.wp _ (Code.region _ _ _) _ a w
  refine wp_region_list ?_
  show wpList _ _ _ [_, _, _, _, _, _, _] a w
  refine mv_c (F := fun l a => wpList _ _ _ l a w) runs_list (d := 323) rfl rfl rfl (by rw [hp.size]; decide) hp.s3 fun a1 l1 vm => ?_
  have hp := hp.lo l1 (by decide)
  have hcz : w.cell? ((⟨hb, 0, none⟩ : Addr).add 14) = some (.int .i64 z) := by
    rw [add0, hg.below.cell (p := ⟨hb, 14, none⟩) hH.cs.lt, hH.cs.cell]
    exact hH.ha.num
  refine fl_c (F := fun l a => wpList _ _ _ l a w) runs_list (d := 324) (s := 1) (off := 14) ⟨rfl, rfl, rfl, rfl, rfl, rfl⟩ (by rw [hp.size]; decide) hp.s1 (fp_house_14 _) (at_eq hcz) fun a2 l2 n0 => ?_
  have hp := hp.lo l2 (by decide)
  have vm := (l2.low 323 (by decide)).trans vm
  refine tail2_list (m := 326) (d0 := 323) (parts := #[(0, .tmp 325)]) (vs := [.int .i64 z]) ⟨rfl, rfl, rfl, rfl, rfl, rfl⟩ (by decide) (by rw [hp.size]; decide) (by decide) (by simp) (by simp) (by simp [n0]) (by simp) vm hg hg.le (by omega) fun a' w' v' zs ds e' g' => ?_
  obtain ⟨A, c, rfl, hrow⟩ := gat_row g' (by simp; omega)
  have e2 : a'.eval (.tmp 327) = .slice A ((L ++ [Value.int .i64 z]).map fun u => [u]).length c := e'
  have hw := wide_any hrow
  obtain ⟨nn, hnn⟩ : ∃ nn, nn = ((L ++ [Value.int .i64 z]).map fun u => [u]).length := ⟨_, rfl⟩
  rw [← hnn] at e2 hw
  have hv : (#[Operand.tmp 327] : Array Operand).map a'.eval = #[.slice A nn c] := by simp only [List.map_toArray, List.map_cons, List.map_nil, e2]
  refine wpList_callR rfl 17 _ _ rfl _ hv (cf_wide _ _) _ hw ?_
  rintro e w1 ⟨hr, hb1⟩
  have hbb : Below u.heap.size u w1 := (hu.trans (g'.below.mono hu.size)).trans (hb1.mono (Nat.le_trans hu.size g'.below.size))
  have hfin : ∀ (b : Bool) (a2 : Act), a2.defers = [] → a2.eval (.tmp 2) = .bool b → (b = true → Wides R z) → bodyPost Try.prog Try.f19 (YesIf (Wides R z) u) .ret a2 w1 := fun b a2 hd h2 hb => by
    refine ⟨hd, _, res_P h2, ?_, hbb⟩
    cases b with
    | true => exact .inl ⟨rfl, hb rfl⟩
    | false => exact .inr rfl
  have hz328 : 328 < a'.tmps.size := by rw [zs, hp.size]; decide
  have hd' : a'.defers = [] := ds.trans hp.defers
  rcases hr with ⟨rfl, hall⟩ | rfl
  · refine ⟨_, rfl, end_list rfl rfl rfl hz328 hd' fun a2 d2 e2 => ?_⟩
    show Code.wp _ Code.ret _ a2 w1
    refine wp_ret (hfin true a2 d2 e2 fun _ => ⟨fun j hj x hx m hm y hy => ?_, hall z (List.mem_map.2 ⟨_, List.mem_append_right _ (by simp), rfl⟩)⟩)
    obtain ⟨k, hk, rfl⟩ := List.getElem_of_mem hx
    have := hC.before j hj k _ hk (List.getElem?_eq_getElem hk) m hm y hy
    exact hall y (List.mem_map.2 ⟨_, List.mem_append_left _ this, rfl⟩)
  · refine ⟨_, rfl, end_list rfl rfl rfl hz328 hd' fun a2 d2 e2 => ?_⟩
    show Code.wp _ Code.ret _ a2 w1
    exact wp_ret (hfin false a2 d2 e2 fun h => by cases h)
theorem partP_0 : dropP 0 bodyP = .seq (seqLP (dropP 0 bodyP)) (dropP 1 bodyP) := rfl
theorem partP_1 : dropP 1 bodyP = .seq (seqLP (dropP 1 bodyP)) (dropP 2 bodyP) := rfl
theorem partP_2 : dropP 2 bodyP = .seq (seqLP (dropP 2 bodyP)) (dropP 3 bodyP) := rfl
theorem partP_3 : dropP 3 bodyP = .seq (seqLP (dropP 3 bodyP)) (dropP 4 bodyP) := rfl
theorem partP_4 : dropP 4 bodyP = .seq (seqLP (dropP 4 bodyP)) (dropP 5 bodyP) := rfl
theorem partP_5 : dropP 5 bodyP = .seq (seqLP (dropP 5 bodyP)) (dropP 6 bodyP) := rfl
theorem partP_6 : dropP 6 bodyP = .seq (seqLP (dropP 6 bodyP)) (dropP 7 bodyP) := rfl
theorem partP_7 : dropP 7 bodyP = .seq (seqLP (dropP 7 bodyP)) (dropP 8 bodyP) := rfl
theorem partP_8 : dropP 8 bodyP = .seq (seqLP (dropP 8 bodyP)) (dropP 9 bodyP) := rfl
theorem partP_9 : dropP 9 bodyP = .seq (seqLP (dropP 9 bodyP)) (dropP 10 bodyP) := rfl
theorem partP_10 : dropP 10 bodyP = .seq (seqLP (dropP 10 bodyP)) (dropP 11 bodyP) := rfl
theorem partP_11 : dropP 11 bodyP = .seq (seqLP (dropP 11 bodyP)) (dropP 12 bodyP) := rfl
theorem partP_12 : dropP 12 bodyP = .seq (seqLP (dropP 12 bodyP)) (dropP 13 bodyP) := rfl
set_option maxHeartbeats 4000000 in
set_option maxRecDepth 100000 in
theorem plain_any {vs : List Value} {R : Nat → List (List Value)} {z : Int} {w : World} (h : HouseA w vs R z) (hc : ∀ j, j < 14 → (R j).length * szJ j ≤ 1048576) : Calls Try.prog 19 #[.agg vs.toArray] w (YesIf (Wides R z) w) := by
  refine calls_of_wp (c := dropP 0 bodyP) Try.func19 rfl ?_
  have hPut : PutOk (bodyPost Try.prog Try.f19 (YesIf (Wides R z) w)) := fun c a d v w' q => ⟨(put_defers a d v) ▸ q.1, q.2⟩
  obtain ⟨a, ha⟩ : ∃ a : Act, a = { tmps := #[.agg vs.toArray] ++ Array.replicate (Try.f19.ntmps - (#[Value.agg vs.toArray] : Array Value).size) undef, defers := [] } := ⟨_, rfl⟩
  rw [← ha]
  have z1 : a.tmps.size = 329 := by rw [ha]; simp [Try.ntmps19]
  have z2 : a.defers = [] := by rw [ha]
  have z3 : a.eval (.tmp 0) = .agg vs.toArray := by rw [ha]; simp [Act.eval]
  clear ha
  rw [partP_0]
  refine wp_seq (wp_region_list ?_)
  show wpList _ _ _ [_, _] a w
  refine Great.wpList_allocTo rfl (some 1) rfl _ _ (run_boxP rfl z3 w) ?_
  have v1 : (a.put (some 1) (.pointer (some ⟨w.heap.size, 0, none⟩))).eval (.tmp 1) = .pointer (some ⟨w.heap.size, 0, none⟩) := put_same _ (by rw [z1]; decide)
  have x1 := (put_size a (some 1) (.pointer (some ⟨w.heap.size, 0, none⟩))).trans z1
  have q1 := (put_defers a (some 1) (.pointer (some ⟨w.heap.size, 0, none⟩))).trans z2
  generalize a.put (some 1) (.pointer (some ⟨w.heap.size, 0, none⟩)) = a1 at v1 x1 q1
  refine wpList_mv rfl (.const (.bool false)) (.inr rfl) (wpList_nil ?_)
  have v2 : (a1.put (some 2) (a1.eval (.const (.bool false)))).eval (.tmp 1) = .pointer (some ⟨w.heap.size, 0, none⟩) := (put_other _ (by decide)).trans v1
  have x2 := (put_size a1 (some 2) (a1.eval (.const (.bool false)))).trans x1
  have q2 := (put_defers a1 (some 2) (a1.eval (.const (.bool false)))).trans q1
  show Code.wp _ (dropP 1 bodyP) _ (a1.put (some 2) (a1.eval (.const (.bool false)))) _
  generalize a1.put (some 2) (a1.eval (.const (.bool false))) = a2 at v2 x2 q2
  obtain ⟨W, hW⟩ : ∃ W, W = w.alloc (.cells vs.toArray 37) := ⟨_, rfl⟩
  have hB : Below w.heap.size w W := by rw [hW]; exact alloc_below _ _
  have hcs : Cs w.heap.size 37 vs W := by rw [hW]; exact cs_alloc _ _ _ _ rfl
  rw [← hW]
  clear hW
  have hH : HW W w.heap.size vs R z := ⟨hcs, h.below hB, hc⟩
  rw [partP_1]
  refine wp_seq (wp_region_list ?_)
  show wpList _ _ _ [_] a2 W
  refine wpList_mv rfl (.const (.slice none 0 0)) (.inr rfl) (wpList_nil ?_)
  have v3 : (a2.put (some 3) (a2.eval (.const (.slice none 0 0)))).eval (.tmp 3) = .slice none 0 0 := put_same _ (by rw [x2]; decide)
  have v3b : (a2.put (some 3) (a2.eval (.const (.slice none 0 0)))).eval (.tmp 1) = .pointer (some ⟨w.heap.size, 0, none⟩) := (put_other _ (by decide)).trans v2
  have x3 := (put_size a2 (some 3) (a2.eval (.const (.slice none 0 0)))).trans x2
  have q3 := (put_defers a2 (some 3) (a2.eval (.const (.slice none 0 0)))).trans q2
  show Code.wp _ (dropP 2 bodyP) _ (a2.put (some 3) (a2.eval (.const (.slice none 0 0)))) _
  generalize a2.put (some 3) (a2.eval (.const (.slice none 0 0))) = a3 at v3 v3b x3 q3
  have h0 : LS W w.heap.size R 0 0 a3 W := ⟨[], ⟨_, ⟨x3, q3, v3b, v3⟩, ⟨World.ownsRow_nil _ _ _ _, fun u hu => (by cases hu), Below.refl _ _⟩⟩, ⟨fun j' hj => absurd hj (by omega), Cov.zero⟩, by simp⟩
  clear v3 v3b x3 q3 x2 q2 v2 x1 q1 v1 z1 z2 z3
  rw [partP_2]
  refine wp_seq (pl_item hH hPut.then_ h0 fun b0 w0 h0 => ?_)
  show Code.wp _ (dropP 3 bodyP) _ b0 w0
  rw [partP_3]
  refine wp_seq (pl_lot hH hPut.then_ h0 fun b1 w1 h0 => ?_)
  show Code.wp _ (dropP 4 bodyP) _ b1 w1
  have h0 := LS.none h0 (rfl : offsJ 2 = [])
  rw [partP_4]
  refine wp_seq (pl_bin hH hPut.then_ h0 fun b2 w2 h0 => ?_)
  show Code.wp _ (dropP 5 bodyP) _ b2 w2
  rw [partP_5]
  refine wp_seq (pl_quant hH hPut.then_ h0 fun b3 w3 h0 => ?_)
  show Code.wp _ (dropP 6 bodyP) _ b3 w3
  rw [partP_6]
  refine wp_seq (pl_rule hH hPut.then_ h0 fun b4 w4 h0 => ?_)
  show Code.wp _ (dropP 7 bodyP) _ b4 w4
  rw [partP_7]
  refine wp_seq (pl_lines hH hPut.then_ h0 fun b5 w5 h0 => ?_)
  show Code.wp _ (dropP 8 bodyP) _ b5 w5
  rw [partP_8]
  refine wp_seq (pl_claim hH hPut.then_ h0 fun b6 w6 h0 => ?_)
  show Code.wp _ (dropP 9 bodyP) _ b6 w6
  rw [partP_9]
  refine wp_seq (pl_task hH hPut.then_ h0 fun b7 w7 h0 => ?_)
  show Code.wp _ (dropP 10 bodyP) _ b7 w7
  have h0 := LS.none h0 (rfl : offsJ 10 = [])
  rw [partP_10]
  refine wp_seq (pl_sent hH hPut.then_ h0 fun b8 w8 h0 => ?_)
  show Code.wp _ (dropP 11 bodyP) _ b8 w8
  rw [partP_11]
  refine wp_seq (pl_counted hH hPut.then_ h0 fun b9 w9 h0 => ?_)
  show Code.wp _ (dropP 12 bodyP) _ b9 w9
  rw [partP_12]
  refine wp_seq (pl_total hH hPut.then_ h0 fun b10 w10 h0 => ?_)
  show Code.wp _ (dropP 13 bodyP) _ b10 w10
  exact plain_end hH hB h0
end Go.Proofs.Ytgdoodeibcfcjaa.Wire
namespace Go.Proofs.Ytgdoodeibcfcjaa.Wire
open Go.RowKit Go.Proofs.Ytgdoodeibcfcjaa.NumsPure Go.Proofs.Ytgdoodeibcfcjaa.CPure Go.Proofs.Ytgdoodeibcfcjaa.Own
theorem clampV_in {z : Int} (h : InW z) : clampV (.int .i64 z) = .int .i64 z := by
  show Value.int .i64 (clampN z) = _
  rw [clamp_id h.1 h.2]
theorem clamp_strs {R : List (List Value)} (h : ∀ x ∈ R, Fits ks_str x) : R.map (·.map clampV) = R := by
  refine (List.map_congr_left fun x hx => ?_).trans (List.map_id R)
  obtain ⟨v, r, rfl, ⟨s, rfl⟩, hr⟩ := h x hx
  rw [show r = [] from hr]
  rfl
theorem clamp_ints {R : List (List Value)} (h : ∀ x ∈ R, Fits ks_int x) (hw : ∀ z, [.int .i64 z] ∈ R → InW z) : R.map (·.map clampV) = R := by
  refine (List.map_congr_left fun x hx => ?_).trans (List.map_id R)
  obtain ⟨v, r, rfl, ⟨z, rfl⟩, hr⟩ := h x hx
  obtain rfl : r = [] := hr
  show [clampV (.int .i64 z)] = _
  rw [clampV_in (hw z hx)]
  rfl
theorem clamp_row {j : Nat} (hj : j < 14) {x : List Value} (hf : Fits (ksJ j) x) (hw : ∀ m ∈ offsJ j, ∀ y, x[m]? = some (.int .i64 y) → InW y) : x.map clampV = x := by
  apply List.ext_getElem?
  intro m
  rw [List.getElem?_map]
  by_cases hm : m < x.length
  · have hk : ∃ k, (ksJ j)[m]? = some k := ⟨_, List.getElem?_eq_getElem (by rw [← fits_len hf]; exact hm)⟩
    obtain ⟨k, hk⟩ := hk
    obtain ⟨v, hv, hi⟩ := fits_at hf hk
    rw [hv]
    cases k with
    | t => obtain ⟨s, rfl⟩ := hi; rfl
    | b => obtain ⟨s, rfl⟩ := hi; rfl
    | n =>
      obtain ⟨y, rfl⟩ := hi
      show some (clampV _) = _
      rw [clampV_in (hw m (offs_all j hj m .n hk rfl) y hv)]
  · rw [List.getElem?_eq_none (by omega)]; rfl
theorem clamp_house {R : Nat → List (List Value)} {z : Int} (hB : Backs R) (hw : Wides R z) : (∀ j, j < 14 → (R j).map (·.map clampV) = R j) ∧ clampN z = z :=
  ⟨fun j hj => (List.map_congr_left fun x hx => clamp_row hj (hB.fits j hj x hx) (hw.1 j hj x hx)).trans (List.map_id _), clamp_id hw.2.1 hw.2.2⟩
theorem short_rows {R : List (List Value)} {ks : List K} (hf : ∀ x ∈ R, Fits ks x) (hl : (R.flatMap encs).length ≤ 100000000) : ∀ x ∈ R, ∀ v ∈ x, Short v := by
  intro x hx v hv
  have h1 : (encs x).length ≤ (R.flatMap encs).length := by
    obtain ⟨a, b, rfl⟩ := List.append_of_mem hx
    simp only [List.flatMap_append, List.flatMap_cons, List.length_append]
    omega
  have h2 : (encV v).length ≤ (encs x).length := by
    obtain ⟨a, b, rfl⟩ := List.append_of_mem hv
    unfold encs
    simp only [List.flatMap_append, List.flatMap_cons, List.length_append]
    omega
  cases v with
  | string s =>
    show s.size < 9223372036854775808
    have h3 : s.size ≤ (encV (.string s)).length := by
      show s.size ≤ (textB s).length
      unfold textB
      simp
    omega
  | _ => trivial
end Go.Proofs.Ytgdoodeibcfcjaa.Wire
