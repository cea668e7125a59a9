/- The reference's Bytes: its lists. Printed by brefl.py. -/
import Derived.Test.YtgdoodeibcfcjaaGreatBFns
set_option linter.unusedVariables false
set_option linter.unusedSimpArgs false
namespace Go.Proofs.YtgdoodeibcfcjaaGreat.Wire
open Go.RowKit Go.Proofs.YtgdoodeibcfcjaaGreat.NumsPure Go.Proofs.YtgdoodeibcfcjaaGreat.CPure Go.Proofs.YtgdoodeibcfcjaaGreat.Own
open Go.Proofs.YtgdoodeibcfcjaaGreat.Put (digits digits_lt digits_ge)
noncomputable def bodyB : Code := (Tryz.f9.body).getD .skip
def seqRB : Code → Code
  | .seq _ b => b
  | c => c
def seqLB : Code → Code
  | .seq a _ => a
  | c => c
def dropB : Nat → Code → Code
  | 0, c => c
  | n + 1, c => dropB n (seqRB c)
noncomputable def partB (i : Nat) : Code := seqLB (dropB i bodyB)
theorem lb_item : LP 22 59 0 14 where
  fa := fun b w => by simp [go_sem]
  ag := fun w => by simp [go_sem]
  ix := fun ad n c i w h => by
    have h0 : (0 : Int) ≤ (i : Int) := by omega
    have h1 : (i : Int) < (n : Int) := by omega
    simp [go_sem, h0, h1]
theorem lb_lot : LP 23 62 1 3 where
  fa := fun b w => by simp [go_sem]
  ag := fun w => by simp [go_sem]
  ix := fun ad n c i w h => by
    have h0 : (0 : Int) ≤ (i : Int) := by omega
    have h1 : (i : Int) < (n : Int) := by omega
    simp [go_sem, h0, h1]
theorem lb_zone : LP 24 65 2 2 where
  fa := fun b w => by simp [go_sem]
  ag := fun w => by simp [go_sem]
  ix := fun ad n c i w h => by
    have h0 : (0 : Int) ≤ (i : Int) := by omega
    have h1 : (i : Int) < (n : Int) := by omega
    simp [go_sem, h0, h1]
theorem lb_bin : LP 25 68 3 8 where
  fa := fun b w => by simp [go_sem]
  ag := fun w => by simp [go_sem]
  ix := fun ad n c i w h => by
    have h0 : (0 : Int) ≤ (i : Int) := by omega
    have h1 : (i : Int) < (n : Int) := by omega
    simp [go_sem, h0, h1]
theorem lb_quant : LP 26 73 4 6 where
  fa := fun b w => by simp [go_sem]
  ag := fun w => by simp [go_sem]
  ix := fun ad n c i w h => by
    have h0 : (0 : Int) ≤ (i : Int) := by omega
    have h1 : (i : Int) < (n : Int) := by omega
    simp [go_sem, h0, h1]
theorem lb_rule : LP 27 76 5 3 where
  fa := fun b w => by simp [go_sem]
  ag := fun w => by simp [go_sem]
  ix := fun ad n c i w h => by
    have h0 : (0 : Int) ≤ (i : Int) := by omega
    have h1 : (i : Int) < (n : Int) := by omega
    simp [go_sem, h0, h1]
theorem lb_notice : LP 28 82 6 51 where
  fa := fun b w => by simp [go_sem]
  ag := fun w => by simp [go_sem]
  ix := fun ad n c i w h => by
    have h0 : (0 : Int) ≤ (i : Int) := by omega
    have h1 : (i : Int) < (n : Int) := by omega
    simp [go_sem, h0, h1]
theorem lb_order : LP 29 85 7 50 where
  fa := fun b w => by simp [go_sem]
  ag := fun w => by simp [go_sem]
  ix := fun ad n c i w h => by
    have h0 : (0 : Int) ≤ (i : Int) := by omega
    have h1 : (i : Int) < (n : Int) := by omega
    simp [go_sem, h0, h1]
theorem lb_claim : LP 30 88 8 8 where
  fa := fun b w => by simp [go_sem]
  ag := fun w => by simp [go_sem]
  ix := fun ad n c i w h => by
    have h0 : (0 : Int) ≤ (i : Int) := by omega
    have h1 : (i : Int) < (n : Int) := by omega
    simp [go_sem, h0, h1]
theorem lb_task : LP 31 91 9 11 where
  fa := fun b w => by simp [go_sem]
  ag := fun w => by simp [go_sem]
  ix := fun ad n c i w h => by
    have h0 : (0 : Int) ≤ (i : Int) := by omega
    have h1 : (i : Int) < (n : Int) := by omega
    simp [go_sem, h0, h1]
theorem lb_parcel : LP 32 94 10 2 where
  fa := fun b w => by simp [go_sem]
  ag := fun w => by simp [go_sem]
  ix := fun ad n c i w h => by
    have h0 : (0 : Int) ≤ (i : Int) := by omega
    have h1 : (i : Int) < (n : Int) := by omega
    simp [go_sem, h0, h1]
theorem lb_sent : LP 33 97 11 5 where
  fa := fun b w => by simp [go_sem]
  ag := fun w => by simp [go_sem]
  ix := fun ad n c i w h => by
    have h0 : (0 : Int) ≤ (i : Int) := by omega
    have h1 : (i : Int) < (n : Int) := by omega
    simp [go_sem, h0, h1]
theorem lb_counted : LP 34 100 12 5 where
  fa := fun b w => by simp [go_sem]
  ag := fun w => by simp [go_sem]
  ix := fun ad n c i w h => by
    have h0 : (0 : Int) ≤ (i : Int) := by omega
    have h1 : (i : Int) < (n : Int) := by omega
    simp [go_sem, h0, h1]
theorem lb_total : LP 35 103 13 6 where
  fa := fun b w => by simp [go_sem]
  ag := fun w => by simp [go_sem]
  ix := fun ad n c i w h => by
    have h0 : (0 : Int) ≤ (i : Int) := by omega
    have h1 : (i : Int) < (n : Int) := by omega
    simp [go_sem, h0, h1]
theorem fx_lot_0 (b : Addr) (w : World) : (Instr.fieldAt 62 (.pointer (some b)) 0).run Tryz.prog w = .ok (.pointer (some (b.add 0))) w := by simp [go_sem]
theorem fx_lot_1 (b : Addr) (w : World) : (Instr.fieldAt 62 (.pointer (some b)) 1).run Tryz.prog w = .ok (.pointer (some (b.add 1))) w := by simp [go_sem]
theorem fx_lot_2 (b : Addr) (w : World) : (Instr.fieldAt 62 (.pointer (some b)) 2).run Tryz.prog w = .ok (.pointer (some (b.add 2))) w := by simp [go_sem]
set_option maxHeartbeats 4000000 in
set_option maxRecDepth 100000 in
theorem bl_lot {W : World} {hb : Nat} {vs : List Value} {R : Nat → List (List Value)} {z : Int} (hH : HW W hb vs R z) {a : Act} {w : World} {Q : Exit → Act → World → Prop} (h0 : LB W hb (encTo R 1 ++ digits (R 1).length) a w) (h : ∀ a' w', LB W hb (encTo R 2) a' w' → Q .normal a' w') : (partB 4).wp Tryz.prog Q a w := by
  refine bl_list (j := 1) (ct := 7) (hd := 95) (di := 100) (by decide) rfl rfl rfl ⟨rfl, rfl, rfl, rfl, rfl, rfl, rfl, rfl, rfl, ⟨_, rfl⟩, rfl, rfl, rfl, rfl, rfl⟩ ⟨rfl, rfl, rfl, rfl, ⟨_, rfl⟩, rfl, rfl, rfl, rfl⟩ (by decide) (by decide) (by decide) (by decide) (by decide) (by decide) lb_lot Tryz.underlying23 hH ?_ h0 h
  intro a w i v Q hi hp hO hc hQ
  obtain ⟨x, ad, c, hx, hcell, hrow, hfx, hblk⟩ := hH.num hO.below (by decide : 1 < 14) hi
  have hxl := hH.xl (by decide : 1 < 14) hx
  have hsz := sz_of hxl
  have hxl : (encs x).length ≤ 1000000000000 := Nat.le_trans hxl (by decide)
  have hle := bsJ_le R z (by decide : 1 < 14) (i + 1)
  rw [bsJ_succ hx, List.length_append] at hle
  have hhl := hH.len
  have hbs : (bsJ R 1 i).length ≤ 100000000 := by omega
  have hi0 := hi
  obtain ⟨n, hn⟩ : ∃ n, n = (R 1).length := ⟨_, rfl⟩
  rw [← hn] at hi hcell
  refine sure_region (S := Below w.drew.heap.size w.drew) (heads := [_, _, _, _, _, _, _, _, _, _, _, _, _, _, _, _, _, _, _, _, _, _, _, _]) (tail := [_, _]) (by kernel_rfl) (by kernel_rfl) (Below.refl _ _) ?_
  have hO := hO.drew
  show wpHs _ _ [_, _, _, _, _, _, _, _, _, _, _, _, _, _, _, _, _, _, _, _, _, _, _, _] a
  have hcell : ∀ w1, Below w.drew.heap.size w.drew w1 → w1.cell? ⟨hb, 1, none⟩ = some (.slice (some ad) n c) := fun w1 hw => by rw [hw.cell (p := ⟨hb, 1, none⟩) (Nat.lt_of_lt_of_le hH.cs.lt hO.below.size)]; exact hcell
  have hrow : ∀ m y, x[m]? = some y → ∀ w1, Below w.drew.heap.size w.drew w1 → w1.cell? ((ad.add (i * 3)).add m) = some y := fun m y hy w1 hw => by rw [add_of_add, hw.cell (p := ad.add (i * 3 + m)) (by rw [block_of_add]; exact Nat.lt_of_lt_of_le hblk hO.below.size)]; exact hrow m y hy
  refine mv_c (F := fun l a => wpHs (Below w.drew.heap.size w.drew) _ l a) runs_s (d := 102) rfl rfl rfl (by rw [hp.size]; decide) hp.s3 fun a1 l1 vm => ?_
  have hB : Bm hb v 7 i 102 7 (.int .i64 (i : Int)) a1 := ⟨hp.lo l1 (by decide), (l1.low 7 (by decide)).trans hc, vm, (l1.low 7 (by decide)).trans hc⟩
  refine df_s (u := w.drew) (d := 103) (off := 0) (i := i) lb_lot ⟨rfl, rfl, rfl, rfl, rfl, rfl, rfl, rfl, rfl, rfl, rfl, rfl⟩ fe_t ⟨rfl, rfl, rfl, rfl, rfl, ⟨_, rfl⟩, rfl, rfl, rfl⟩ hB (by decide) (by decide) (by decide) (by decide) (by decide) hi hcell fx_lot_0 hfx rfl hsz hrow fun a2 _ hB eX => ?_
  refine dfa_s (u := w.drew) (d := 110) (sx := 109) (o := 0) (k := 1) (off := 1) (i := i) lb_lot ⟨rfl, rfl, rfl, rfl, rfl, rfl, rfl, rfl, rfl, rfl, rfl, rfl⟩ fe_t ⟨rfl, rfl, rfl, rfl, rfl, ⟨_, rfl⟩, rfl, rfl, rfl⟩ ⟨rfl, ⟨_, rfl⟩, rfl⟩ hB (by decide) (by decide) (by decide) (by decide) (by decide) (by decide) hi eX rfl hxl hcell fx_lot_1 hfx rfl hsz hrow fun a2 hB eX => ?_
  refine dfa_s (u := w.drew) (d := 118) (sx := 117) (o := 0) (k := 2) (off := 2) (i := i) lb_lot ⟨rfl, rfl, rfl, rfl, rfl, rfl, rfl, rfl, rfl, rfl, rfl, rfl⟩ fe_n ⟨rfl, rfl, rfl, rfl, rfl, ⟨_, rfl⟩, rfl, rfl, rfl⟩ ⟨rfl, ⟨_, rfl⟩, rfl⟩ hB (by decide) (by decide) (by decide) (by decide) (by decide) (by decide) hi eX rfl hxl hcell fx_lot_2 hfx rfl hsz hrow fun a2 hB eX => ?_
  intro w1 hw1
  refine ap_tail (m := 126) (s := 125) ⟨rfl, rfl, rfl, rfl, rfl, rfl⟩ hB eX (hO.later hw1) (by have := sg_len x 0 3; show _ + (sg x 0 3).length ≤ _; omega) (by decide) (by decide) (by decide) (by decide) (by decide) (by decide) fun a' w' v' q1 q2 q3 q4 q5 q6 => ?_
  have q5 : OB W (_ ++ sg x 0 3) v' w' := q5
  rw [sg_all x (n := 3) (fits_len hfx), ← bsJ_succ hx] at q5
  exact hQ a' w' v' q1 q5 q2
theorem fx_zone_0 (b : Addr) (w : World) : (Instr.fieldAt 65 (.pointer (some b)) 0).run Tryz.prog w = .ok (.pointer (some (b.add 0))) w := by simp [go_sem]
theorem fx_zone_1 (b : Addr) (w : World) : (Instr.fieldAt 65 (.pointer (some b)) 1).run Tryz.prog w = .ok (.pointer (some (b.add 1))) w := by simp [go_sem]
set_option maxHeartbeats 4000000 in
set_option maxRecDepth 100000 in
theorem bl_zone {W : World} {hb : Nat} {vs : List Value} {R : Nat → List (List Value)} {z : Int} (hH : HW W hb vs R z) {a : Act} {w : World} {Q : Exit → Act → World → Prop} (h0 : LB W hb (encTo R 2 ++ digits (R 2).length) a w) (h : ∀ a' w', LB W hb (encTo R 3) a' w' → Q .normal a' w') : (partB 6).wp Tryz.prog Q a w := by
  refine bl_list (j := 2) (ct := 8) (hd := 133) (di := 138) (by decide) rfl rfl rfl ⟨rfl, rfl, rfl, rfl, rfl, rfl, rfl, rfl, rfl, ⟨_, rfl⟩, rfl, rfl, rfl, rfl, rfl⟩ ⟨rfl, rfl, rfl, rfl, ⟨_, rfl⟩, rfl, rfl, rfl, rfl⟩ (by decide) (by decide) (by decide) (by decide) (by decide) (by decide) lb_zone Tryz.underlying24 hH ?_ h0 h
  intro a w i v Q hi hp hO hc hQ
  obtain ⟨x, ad, c, hx, hcell, hrow, hfx, hblk⟩ := hH.num hO.below (by decide : 2 < 14) hi
  have hxl := hH.xl (by decide : 2 < 14) hx
  have hsz := sz_of hxl
  have hxl : (encs x).length ≤ 1000000000000 := Nat.le_trans hxl (by decide)
  have hle := bsJ_le R z (by decide : 2 < 14) (i + 1)
  rw [bsJ_succ hx, List.length_append] at hle
  have hhl := hH.len
  have hbs : (bsJ R 2 i).length ≤ 100000000 := by omega
  have hi0 := hi
  obtain ⟨n, hn⟩ : ∃ n, n = (R 2).length := ⟨_, rfl⟩
  rw [← hn] at hi hcell
  refine sure_region (S := Below w.drew.heap.size w.drew) (heads := [_, _, _, _, _, _, _, _, _, _, _, _, _, _, _, _]) (tail := [_, _]) (by kernel_rfl) (by kernel_rfl) (Below.refl _ _) ?_
  have hO := hO.drew
  show wpHs _ _ [_, _, _, _, _, _, _, _, _, _, _, _, _, _, _, _] a
  have hcell : ∀ w1, Below w.drew.heap.size w.drew w1 → w1.cell? ⟨hb, 2, none⟩ = some (.slice (some ad) n c) := fun w1 hw => by rw [hw.cell (p := ⟨hb, 2, none⟩) (Nat.lt_of_lt_of_le hH.cs.lt hO.below.size)]; exact hcell
  have hrow : ∀ m y, x[m]? = some y → ∀ w1, Below w.drew.heap.size w.drew w1 → w1.cell? ((ad.add (i * 2)).add m) = some y := fun m y hy w1 hw => by rw [add_of_add, hw.cell (p := ad.add (i * 2 + m)) (by rw [block_of_add]; exact Nat.lt_of_lt_of_le hblk hO.below.size)]; exact hrow m y hy
  refine mv_c (F := fun l a => wpHs (Below w.drew.heap.size w.drew) _ l a) runs_s (d := 140) rfl rfl rfl (by rw [hp.size]; decide) hp.s3 fun a1 l1 vm => ?_
  have hB : Bm hb v 8 i 140 8 (.int .i64 (i : Int)) a1 := ⟨hp.lo l1 (by decide), (l1.low 8 (by decide)).trans hc, vm, (l1.low 8 (by decide)).trans hc⟩
  refine df_s (u := w.drew) (d := 141) (off := 0) (i := i) lb_zone ⟨rfl, rfl, rfl, rfl, rfl, rfl, rfl, rfl, rfl, rfl, rfl, rfl⟩ fe_t ⟨rfl, rfl, rfl, rfl, rfl, ⟨_, rfl⟩, rfl, rfl, rfl⟩ hB (by decide) (by decide) (by decide) (by decide) (by decide) hi hcell fx_zone_0 hfx rfl hsz hrow fun a2 _ hB eX => ?_
  refine dfa_s (u := w.drew) (d := 148) (sx := 147) (o := 0) (k := 1) (off := 1) (i := i) lb_zone ⟨rfl, rfl, rfl, rfl, rfl, rfl, rfl, rfl, rfl, rfl, rfl, rfl⟩ fe_t ⟨rfl, rfl, rfl, rfl, rfl, ⟨_, rfl⟩, rfl, rfl, rfl⟩ ⟨rfl, ⟨_, rfl⟩, rfl⟩ hB (by decide) (by decide) (by decide) (by decide) (by decide) (by decide) hi eX rfl hxl hcell fx_zone_1 hfx rfl hsz hrow fun a2 hB eX => ?_
  intro w1 hw1
  refine ap_tail (m := 156) (s := 155) ⟨rfl, rfl, rfl, rfl, rfl, rfl⟩ hB eX (hO.later hw1) (by have := sg_len x 0 2; show _ + (sg x 0 2).length ≤ _; omega) (by decide) (by decide) (by decide) (by decide) (by decide) (by decide) fun a' w' v' q1 q2 q3 q4 q5 q6 => ?_
  have q5 : OB W (_ ++ sg x 0 2) v' w' := q5
  rw [sg_all x (n := 2) (fits_len hfx), ← bsJ_succ hx] at q5
  exact hQ a' w' v' q1 q5 q2
theorem fx_bin_0 (b : Addr) (w : World) : (Instr.fieldAt 68 (.pointer (some b)) 0).run Tryz.prog w = .ok (.pointer (some (b.add 0))) w := by simp [go_sem]
theorem fx_bin_1 (b : Addr) (w : World) : (Instr.fieldAt 68 (.pointer (some b)) 1).run Tryz.prog w = .ok (.pointer (some (b.add 1))) w := by simp [go_sem]
theorem fx_bin_2 (b : Addr) (w : World) : (Instr.fieldAt 68 (.pointer (some b)) 2).run Tryz.prog w = .ok (.pointer (some (b.add 2))) w := by simp [go_sem]
theorem fx_bin_3 (b : Addr) (w : World) : (Instr.fieldAt 68 (.pointer (some b)) 3).run Tryz.prog w = .ok (.pointer (some (b.add 3))) w := by simp [go_sem]
theorem fx_bin_4 (b : Addr) (w : World) : (Instr.fieldAt 68 (.pointer (some b)) 4).run Tryz.prog w = .ok (.pointer (some (b.add 4))) w := by simp [go_sem]
theorem fx_bin_5 (b : Addr) (w : World) : (Instr.fieldAt 68 (.pointer (some b)) 5).run Tryz.prog w = .ok (.pointer (some (b.add 5))) w := by simp [go_sem]
theorem fx_bin_6 (b : Addr) (w : World) : (Instr.fieldAt 68 (.pointer (some b)) 6).run Tryz.prog w = .ok (.pointer (some (b.add 6))) w := by simp [go_sem]
theorem fx_bin_7 (b : Addr) (w : World) : (Instr.fieldAt 68 (.pointer (some b)) 7).run Tryz.prog w = .ok (.pointer (some (b.add 7))) w := by simp [go_sem]
set_option maxHeartbeats 4000000 in
set_option maxRecDepth 100000 in
theorem bl_bin {W : World} {hb : Nat} {vs : List Value} {R : Nat → List (List Value)} {z : Int} (hH : HW W hb vs R z) {a : Act} {w : World} {Q : Exit → Act → World → Prop} (h0 : LB W hb (encTo R 3 ++ digits (R 3).length) a w) (h : ∀ a' w', LB W hb (encTo R 4) a' w' → Q .normal a' w') : (partB 8).wp Tryz.prog Q a w := by
  refine bl_list (j := 3) (ct := 9) (hd := 163) (di := 168) (by decide) rfl rfl rfl ⟨rfl, rfl, rfl, rfl, rfl, rfl, rfl, rfl, rfl, ⟨_, rfl⟩, rfl, rfl, rfl, rfl, rfl⟩ ⟨rfl, rfl, rfl, rfl, ⟨_, rfl⟩, rfl, rfl, rfl, rfl⟩ (by decide) (by decide) (by decide) (by decide) (by decide) (by decide) lb_bin Tryz.underlying25 hH ?_ h0 h
  intro a w i v Q hi hp hO hc hQ
  obtain ⟨x, ad, c, hx, hcell, hrow, hfx, hblk⟩ := hH.num hO.below (by decide : 3 < 14) hi
  have hxl := hH.xl (by decide : 3 < 14) hx
  have hsz := sz_of hxl
  have hxl : (encs x).length ≤ 1000000000000 := Nat.le_trans hxl (by decide)
  have hle := bsJ_le R z (by decide : 3 < 14) (i + 1)
  rw [bsJ_succ hx, List.length_append] at hle
  have hhl := hH.len
  have hbs : (bsJ R 3 i).length ≤ 100000000 := by omega
  have hi0 := hi
  obtain ⟨n, hn⟩ : ∃ n, n = (R 3).length := ⟨_, rfl⟩
  rw [← hn] at hi hcell
  refine wp_seq (cp_region (d := 170) (e := 10) (sz := 8) (ct := 9) (ks := ks_bin) ⟨rfl, rfl, rfl, rfl, rfl, rfl, rfl, rfl, rfl, rfl, rfl, rfl⟩ ⟨rfl, rfl, rfl, rfl, rfl, rfl, rfl, rfl, rfl⟩ lb_bin (by decide) (by decide) (by decide) (by decide) (by decide) hp hc hi hcell Tryz.underlying68 rfl (size_ofP info_bin) (zero_ofP info_bin) hfx hrow fun a0 w0 hp hk0 se hcs hBw => ?_)
  have hc := (hk0 9 (by decide) (by decide)).trans hc
  have hO := hO.later hBw
  obtain ⟨nb, hnb⟩ : ∃ nb, nb = w.heap.size := ⟨_, rfl⟩
  rw [← hnb] at se hcs
  show Code.wp _ (Code.region _ _ _) _ a0 w0
  refine sure_region (S := Below w0.drew.heap.size w0.drew) (heads := [_, _, _, _, _, _, _, _, _, _, _, _, _, _, _, _, _, _, _, _, _, _, _, _, _, _, _, _, _, _, _, _]) (tail := [_, _]) (by kernel_rfl) (by kernel_rfl) (Below.refl _ _) ?_
  have hO := hO.drew
  show wpHs _ _ [_, _, _, _, _, _, _, _, _, _, _, _, _, _, _, _, _, _, _, _, _, _, _, _, _, _, _, _, _, _, _, _] a0
  have hrow : ∀ m y, x[m]? = some y → ∀ w1, Below w0.drew.heap.size w0.drew w1 → w1.cell? ((⟨nb, 0, none⟩ : Addr).add m) = some y := fun m y hy w1 hw => by rw [add0B, hw.cell (p := ⟨nb, m, none⟩) hcs.lt]; exact (hcs.cell m).trans hy
  refine mv_c (F := fun l a => wpHs (Below w0.drew.heap.size w0.drew) _ l a) runs_s (d := 175) rfl rfl rfl (by rw [hp.size]; decide) hp.s3 fun a1 l1 vm => ?_
  have hB : Bm hb v 9 i 175 10 (.pointer (some ⟨nb, 0, none⟩)) a1 := ⟨hp.lo l1 (by decide), (l1.low 9 (by decide)).trans hc, vm, (l1.low 10 (by decide)).trans se⟩
  refine bf_s (u := w0.drew) (d := 176) (off := 0) fe_t ⟨rfl, rfl, rfl, rfl, rfl, ⟨_, rfl⟩, rfl, rfl, rfl⟩ hB (by decide) (by decide) (by decide) (by decide) (by decide) fx_bin_0 hfx rfl hsz hrow fun a2 hB eX => ?_
  refine bfa_s (u := w0.drew) (d := 179) (sx := 178) (o := 0) (n := 1) (off := 1) fe_t ⟨rfl, rfl, rfl, rfl, rfl, ⟨_, rfl⟩, rfl, rfl, rfl⟩ ⟨rfl, ⟨_, rfl⟩, rfl⟩ hB (by decide) (by decide) (by decide) (by decide) (by decide) (by decide) eX rfl hxl fx_bin_1 hfx rfl hsz hrow fun a2 hB eX => ?_
  refine bfa_s (u := w0.drew) (d := 183) (sx := 182) (o := 0) (n := 2) (off := 2) fe_n ⟨rfl, rfl, rfl, rfl, rfl, ⟨_, rfl⟩, rfl, rfl, rfl⟩ ⟨rfl, ⟨_, rfl⟩, rfl⟩ hB (by decide) (by decide) (by decide) (by decide) (by decide) (by decide) eX rfl hxl fx_bin_2 hfx rfl hsz hrow fun a2 hB eX => ?_
  refine bfa_s (u := w0.drew) (d := 187) (sx := 186) (o := 0) (n := 3) (off := 3) fe_n ⟨rfl, rfl, rfl, rfl, rfl, ⟨_, rfl⟩, rfl, rfl, rfl⟩ ⟨rfl, ⟨_, rfl⟩, rfl⟩ hB (by decide) (by decide) (by decide) (by decide) (by decide) (by decide) eX rfl hxl fx_bin_3 hfx rfl hsz hrow fun a2 hB eX => ?_
  refine bfa_s (u := w0.drew) (d := 191) (sx := 190) (o := 0) (n := 4) (off := 4) fe_n ⟨rfl, rfl, rfl, rfl, rfl, ⟨_, rfl⟩, rfl, rfl, rfl⟩ ⟨rfl, ⟨_, rfl⟩, rfl⟩ hB (by decide) (by decide) (by decide) (by decide) (by decide) (by decide) eX rfl hxl fx_bin_4 hfx rfl hsz hrow fun a2 hB eX => ?_
  refine bfa_s (u := w0.drew) (d := 195) (sx := 194) (o := 0) (n := 5) (off := 5) fe_n ⟨rfl, rfl, rfl, rfl, rfl, ⟨_, rfl⟩, rfl, rfl, rfl⟩ ⟨rfl, ⟨_, rfl⟩, rfl⟩ hB (by decide) (by decide) (by decide) (by decide) (by decide) (by decide) eX rfl hxl fx_bin_5 hfx rfl hsz hrow fun a2 hB eX => ?_
  refine bfa_s (u := w0.drew) (d := 199) (sx := 198) (o := 0) (n := 6) (off := 6) fe_n ⟨rfl, rfl, rfl, rfl, rfl, ⟨_, rfl⟩, rfl, rfl, rfl⟩ ⟨rfl, ⟨_, rfl⟩, rfl⟩ hB (by decide) (by decide) (by decide) (by decide) (by decide) (by decide) eX rfl hxl fx_bin_6 hfx rfl hsz hrow fun a2 hB eX => ?_
  refine bfa_s (u := w0.drew) (d := 203) (sx := 202) (o := 0) (n := 7) (off := 7) fe_b ⟨rfl, rfl, rfl, rfl, rfl, ⟨_, rfl⟩, rfl, rfl, rfl⟩ ⟨rfl, ⟨_, rfl⟩, rfl⟩ hB (by decide) (by decide) (by decide) (by decide) (by decide) (by decide) eX rfl hxl fx_bin_7 hfx rfl hsz hrow fun a2 hB eX => ?_
  intro w1 hw1
  refine ap_tail (m := 207) (s := 206) ⟨rfl, rfl, rfl, rfl, rfl, rfl⟩ hB eX (hO.later hw1) (by have := sg_len x 0 8; show _ + (sg x 0 8).length ≤ _; omega) (by decide) (by decide) (by decide) (by decide) (by decide) (by decide) fun a' w' v' q1 q2 q3 q4 q5 q6 => ?_
  have q5 : OB W (_ ++ sg x 0 8) v' w' := q5
  rw [sg_all x (n := 8) (fits_len hfx), ← bsJ_succ hx] at q5
  exact hQ a' w' v' q1 q5 q2
theorem fx_quant_0 (b : Addr) (w : World) : (Instr.fieldAt 73 (.pointer (some b)) 0).run Tryz.prog w = .ok (.pointer (some (b.add 0))) w := by simp [go_sem]
theorem fx_quant_1 (b : Addr) (w : World) : (Instr.fieldAt 73 (.pointer (some b)) 1).run Tryz.prog w = .ok (.pointer (some (b.add 4))) w := by simp [go_sem]
theorem fx_quant_2 (b : Addr) (w : World) : (Instr.fieldAt 73 (.pointer (some b)) 2).run Tryz.prog w = .ok (.pointer (some (b.add 5))) w := by simp [go_sem]
set_option maxHeartbeats 4000000 in
set_option maxRecDepth 100000 in
theorem bl_quant {W : World} {hb : Nat} {vs : List Value} {R : Nat → List (List Value)} {z : Int} (hH : HW W hb vs R z) {a : Act} {w : World} {Q : Exit → Act → World → Prop} (h0 : LB W hb (encTo R 4 ++ digits (R 4).length) a w) (h : ∀ a' w', LB W hb (encTo R 5) a' w' → Q .normal a' w') : (partB 10).wp Tryz.prog Q a w := by
  refine bl_list (j := 4) (ct := 11) (hd := 214) (di := 219) (by decide) rfl rfl rfl ⟨rfl, rfl, rfl, rfl, rfl, rfl, rfl, rfl, rfl, ⟨_, rfl⟩, rfl, rfl, rfl, rfl, rfl⟩ ⟨rfl, rfl, rfl, rfl, ⟨_, rfl⟩, rfl, rfl, rfl, rfl⟩ (by decide) (by decide) (by decide) (by decide) (by decide) (by decide) lb_quant Tryz.underlying26 hH ?_ h0 h
  intro a w i v Q hi hp hO hc hQ
  obtain ⟨x, ad, c, hx, hcell, hrow, hfx, hblk⟩ := hH.num hO.below (by decide : 4 < 14) hi
  have hxl := hH.xl (by decide : 4 < 14) hx
  have hsz := sz_of hxl
  have hxl : (encs x).length ≤ 1000000000000 := Nat.le_trans hxl (by decide)
  have hle := bsJ_le R z (by decide : 4 < 14) (i + 1)
  rw [bsJ_succ hx, List.length_append] at hle
  have hhl := hH.len
  have hbs : (bsJ R 4 i).length ≤ 100000000 := by omega
  have hi0 := hi
  obtain ⟨n, hn⟩ : ∃ n, n = (R 4).length := ⟨_, rfl⟩
  rw [← hn] at hi hcell
  refine sure_region (S := Below w.drew.heap.size w.drew) (heads := [_, _, _, _, _, _, _, _, _, _, _, _, _, _, _, _, _, _, _, _, _, _, _, _]) (tail := [_, _]) (by kernel_rfl) (by kernel_rfl) (Below.refl _ _) ?_
  have hO := hO.drew
  show wpHs _ _ [_, _, _, _, _, _, _, _, _, _, _, _, _, _, _, _, _, _, _, _, _, _, _, _] a
  have hcell : ∀ w1, Below w.drew.heap.size w.drew w1 → w1.cell? ⟨hb, 4, none⟩ = some (.slice (some ad) n c) := fun w1 hw => by rw [hw.cell (p := ⟨hb, 4, none⟩) (Nat.lt_of_lt_of_le hH.cs.lt hO.below.size)]; exact hcell
  have hrow : ∀ m y, x[m]? = some y → ∀ w1, Below w.drew.heap.size w.drew w1 → w1.cell? ((ad.add (i * 6)).add m) = some y := fun m y hy w1 hw => by rw [add_of_add, hw.cell (p := ad.add (i * 6 + m)) (by rw [block_of_add]; exact Nat.lt_of_lt_of_le hblk hO.below.size)]; exact hrow m y hy
  refine mv_c (F := fun l a => wpHs (Below w.drew.heap.size w.drew) _ l a) runs_s (d := 221) rfl rfl rfl (by rw [hp.size]; decide) hp.s3 fun a1 l1 vm => ?_
  have hB : Bm hb v 11 i 221 11 (.int .i64 (i : Int)) a1 := ⟨hp.lo l1 (by decide), (l1.low 11 (by decide)).trans hc, vm, (l1.low 11 (by decide)).trans hc⟩
  refine df_s (u := w.drew) (d := 222) (off := 0) (i := i) lb_quant ⟨rfl, rfl, rfl, rfl, rfl, rfl, rfl, rfl, rfl, rfl, rfl, rfl⟩ fe_key ⟨rfl, rfl, rfl, rfl, rfl, ⟨_, rfl⟩, rfl, rfl, rfl⟩ hB (by decide) (by decide) (by decide) (by decide) (by decide) hi hcell fx_quant_0 hfx rfl hsz hrow fun a2 _ hB eX => ?_
  refine dfa_s (u := w.drew) (d := 229) (sx := 228) (o := 0) (k := 4) (off := 4) (i := i) lb_quant ⟨rfl, rfl, rfl, rfl, rfl, rfl, rfl, rfl, rfl, rfl, rfl, rfl⟩ fe_n ⟨rfl, rfl, rfl, rfl, rfl, ⟨_, rfl⟩, rfl, rfl, rfl⟩ ⟨rfl, ⟨_, rfl⟩, rfl⟩ hB (by decide) (by decide) (by decide) (by decide) (by decide) (by decide) hi eX rfl hxl hcell fx_quant_1 hfx rfl hsz hrow fun a2 hB eX => ?_
  refine dfa_s (u := w.drew) (d := 237) (sx := 236) (o := 0) (k := 5) (off := 5) (i := i) lb_quant ⟨rfl, rfl, rfl, rfl, rfl, rfl, rfl, rfl, rfl, rfl, rfl, rfl⟩ fe_n ⟨rfl, rfl, rfl, rfl, rfl, ⟨_, rfl⟩, rfl, rfl, rfl⟩ ⟨rfl, ⟨_, rfl⟩, rfl⟩ hB (by decide) (by decide) (by decide) (by decide) (by decide) (by decide) hi eX rfl hxl hcell fx_quant_2 hfx rfl hsz hrow fun a2 hB eX => ?_
  intro w1 hw1
  refine ap_tail (m := 245) (s := 244) ⟨rfl, rfl, rfl, rfl, rfl, rfl⟩ hB eX (hO.later hw1) (by have := sg_len x 0 6; show _ + (sg x 0 6).length ≤ _; omega) (by decide) (by decide) (by decide) (by decide) (by decide) (by decide) fun a' w' v' q1 q2 q3 q4 q5 q6 => ?_
  have q5 : OB W (_ ++ sg x 0 6) v' w' := q5
  rw [sg_all x (n := 6) (fits_len hfx), ← bsJ_succ hx] at q5
  exact hQ a' w' v' q1 q5 q2
theorem fx_rule_0 (b : Addr) (w : World) : (Instr.fieldAt 76 (.pointer (some b)) 0).run Tryz.prog w = .ok (.pointer (some (b.add 0))) w := by simp [go_sem]
theorem fx_rule_1 (b : Addr) (w : World) : (Instr.fieldAt 76 (.pointer (some b)) 1).run Tryz.prog w = .ok (.pointer (some (b.add 1))) w := by simp [go_sem]
theorem fx_rule_2 (b : Addr) (w : World) : (Instr.fieldAt 76 (.pointer (some b)) 2).run Tryz.prog w = .ok (.pointer (some (b.add 2))) w := by simp [go_sem]
set_option maxHeartbeats 4000000 in
set_option maxRecDepth 100000 in
theorem bl_rule {W : World} {hb : Nat} {vs : List Value} {R : Nat → List (List Value)} {z : Int} (hH : HW W hb vs R z) {a : Act} {w : World} {Q : Exit → Act → World → Prop} (h0 : LB W hb (encTo R 5 ++ digits (R 5).length) a w) (h : ∀ a' w', LB W hb (encTo R 6) a' w' → Q .normal a' w') : (partB 12).wp Tryz.prog Q a w := by
  refine bl_list (j := 5) (ct := 12) (hd := 252) (di := 257) (by decide) rfl rfl rfl ⟨rfl, rfl, rfl, rfl, rfl, rfl, rfl, rfl, rfl, ⟨_, rfl⟩, rfl, rfl, rfl, rfl, rfl⟩ ⟨rfl, rfl, rfl, rfl, ⟨_, rfl⟩, rfl, rfl, rfl, rfl⟩ (by decide) (by decide) (by decide) (by decide) (by decide) (by decide) lb_rule Tryz.underlying27 hH ?_ h0 h
  intro a w i v Q hi hp hO hc hQ
  obtain ⟨x, ad, c, hx, hcell, hrow, hfx, hblk⟩ := hH.num hO.below (by decide : 5 < 14) hi
  have hxl := hH.xl (by decide : 5 < 14) hx
  have hsz := sz_of hxl
  have hxl : (encs x).length ≤ 1000000000000 := Nat.le_trans hxl (by decide)
  have hle := bsJ_le R z (by decide : 5 < 14) (i + 1)
  rw [bsJ_succ hx, List.length_append] at hle
  have hhl := hH.len
  have hbs : (bsJ R 5 i).length ≤ 100000000 := by omega
  have hi0 := hi
  obtain ⟨n, hn⟩ : ∃ n, n = (R 5).length := ⟨_, rfl⟩
  rw [← hn] at hi hcell
  refine sure_region (S := Below w.drew.heap.size w.drew) (heads := [_, _, _, _, _, _, _, _, _, _, _, _, _, _, _, _, _, _, _, _, _, _, _, _]) (tail := [_, _]) (by kernel_rfl) (by kernel_rfl) (Below.refl _ _) ?_
  have hO := hO.drew
  show wpHs _ _ [_, _, _, _, _, _, _, _, _, _, _, _, _, _, _, _, _, _, _, _, _, _, _, _] a
  have hcell : ∀ w1, Below w.drew.heap.size w.drew w1 → w1.cell? ⟨hb, 5, none⟩ = some (.slice (some ad) n c) := fun w1 hw => by rw [hw.cell (p := ⟨hb, 5, none⟩) (Nat.lt_of_lt_of_le hH.cs.lt hO.below.size)]; exact hcell
  have hrow : ∀ m y, x[m]? = some y → ∀ w1, Below w.drew.heap.size w.drew w1 → w1.cell? ((ad.add (i * 3)).add m) = some y := fun m y hy w1 hw => by rw [add_of_add, hw.cell (p := ad.add (i * 3 + m)) (by rw [block_of_add]; exact Nat.lt_of_lt_of_le hblk hO.below.size)]; exact hrow m y hy
  refine mv_c (F := fun l a => wpHs (Below w.drew.heap.size w.drew) _ l a) runs_s (d := 259) rfl rfl rfl (by rw [hp.size]; decide) hp.s3 fun a1 l1 vm => ?_
  have hB : Bm hb v 12 i 259 12 (.int .i64 (i : Int)) a1 := ⟨hp.lo l1 (by decide), (l1.low 12 (by decide)).trans hc, vm, (l1.low 12 (by decide)).trans hc⟩
  refine df_s (u := w.drew) (d := 260) (off := 0) (i := i) lb_rule ⟨rfl, rfl, rfl, rfl, rfl, rfl, rfl, rfl, rfl, rfl, rfl, rfl⟩ fe_t ⟨rfl, rfl, rfl, rfl, rfl, ⟨_, rfl⟩, rfl, rfl, rfl⟩ hB (by decide) (by decide) (by decide) (by decide) (by decide) hi hcell fx_rule_0 hfx rfl hsz hrow fun a2 _ hB eX => ?_
  refine dfa_s (u := w.drew) (d := 267) (sx := 266) (o := 0) (k := 1) (off := 1) (i := i) lb_rule ⟨rfl, rfl, rfl, rfl, rfl, rfl, rfl, rfl, rfl, rfl, rfl, rfl⟩ fe_t ⟨rfl, rfl, rfl, rfl, rfl, ⟨_, rfl⟩, rfl, rfl, rfl⟩ ⟨rfl, ⟨_, rfl⟩, rfl⟩ hB (by decide) (by decide) (by decide) (by decide) (by decide) (by decide) hi eX rfl hxl hcell fx_rule_1 hfx rfl hsz hrow fun a2 hB eX => ?_
  refine dfa_s (u := w.drew) (d := 275) (sx := 274) (o := 0) (k := 2) (off := 2) (i := i) lb_rule ⟨rfl, rfl, rfl, rfl, rfl, rfl, rfl, rfl, rfl, rfl, rfl, rfl⟩ fe_n ⟨rfl, rfl, rfl, rfl, rfl, ⟨_, rfl⟩, rfl, rfl, rfl⟩ ⟨rfl, ⟨_, rfl⟩, rfl⟩ hB (by decide) (by decide) (by decide) (by decide) (by decide) (by decide) hi eX rfl hxl hcell fx_rule_2 hfx rfl hsz hrow fun a2 hB eX => ?_
  intro w1 hw1
  refine ap_tail (m := 283) (s := 282) ⟨rfl, rfl, rfl, rfl, rfl, rfl⟩ hB eX (hO.later hw1) (by have := sg_len x 0 3; show _ + (sg x 0 3).length ≤ _; omega) (by decide) (by decide) (by decide) (by decide) (by decide) (by decide) fun a' w' v' q1 q2 q3 q4 q5 q6 => ?_
  have q5 : OB W (_ ++ sg x 0 3) v' w' := q5
  rw [sg_all x (n := 3) (fits_len hfx), ← bsJ_succ hx] at q5
  exact hQ a' w' v' q1 q5 q2
theorem fx_claim_0 (b : Addr) (w : World) : (Instr.fieldAt 88 (.pointer (some b)) 0).run Tryz.prog w = .ok (.pointer (some (b.add 0))) w := by simp [go_sem]
theorem fx_claim_1 (b : Addr) (w : World) : (Instr.fieldAt 88 (.pointer (some b)) 1).run Tryz.prog w = .ok (.pointer (some (b.add 1))) w := by simp [go_sem]
theorem fx_claim_2 (b : Addr) (w : World) : (Instr.fieldAt 88 (.pointer (some b)) 2).run Tryz.prog w = .ok (.pointer (some (b.add 2))) w := by simp [go_sem]
theorem fx_claim_3 (b : Addr) (w : World) : (Instr.fieldAt 88 (.pointer (some b)) 3).run Tryz.prog w = .ok (.pointer (some (b.add 6))) w := by simp [go_sem]
theorem fx_claim_4 (b : Addr) (w : World) : (Instr.fieldAt 88 (.pointer (some b)) 4).run Tryz.prog w = .ok (.pointer (some (b.add 7))) w := by simp [go_sem]
set_option maxHeartbeats 4000000 in
set_option maxRecDepth 100000 in
theorem bl_claim {W : World} {hb : Nat} {vs : List Value} {R : Nat → List (List Value)} {z : Int} (hH : HW W hb vs R z) {a : Act} {w : World} {Q : Exit → Act → World → Prop} (h0 : LB W hb (encTo R 8 ++ digits (R 8).length) a w) (h : ∀ a' w', LB W hb (encTo R 9) a' w' → Q .normal a' w') : (partB 18).wp Tryz.prog Q a w := by
  refine bl_list (j := 8) (ct := 17) (hd := 389) (di := 394) (by decide) rfl rfl rfl ⟨rfl, rfl, rfl, rfl, rfl, rfl, rfl, rfl, rfl, ⟨_, rfl⟩, rfl, rfl, rfl, rfl, rfl⟩ ⟨rfl, rfl, rfl, rfl, ⟨_, rfl⟩, rfl, rfl, rfl, rfl⟩ (by decide) (by decide) (by decide) (by decide) (by decide) (by decide) lb_claim Tryz.underlying30 hH ?_ h0 h
  intro a w i v Q hi hp hO hc hQ
  obtain ⟨x, ad, c, hx, hcell, hrow, hfx, hblk⟩ := hH.num hO.below (by decide : 8 < 14) hi
  have hxl := hH.xl (by decide : 8 < 14) hx
  have hsz := sz_of hxl
  have hxl : (encs x).length ≤ 1000000000000 := Nat.le_trans hxl (by decide)
  have hle := bsJ_le R z (by decide : 8 < 14) (i + 1)
  rw [bsJ_succ hx, List.length_append] at hle
  have hhl := hH.len
  have hbs : (bsJ R 8 i).length ≤ 100000000 := by omega
  have hi0 := hi
  obtain ⟨n, hn⟩ : ∃ n, n = (R 8).length := ⟨_, rfl⟩
  rw [← hn] at hi hcell
  refine wp_seq (cp_region (d := 396) (e := 18) (sz := 8) (ct := 17) (ks := ks_claim) ⟨rfl, rfl, rfl, rfl, rfl, rfl, rfl, rfl, rfl, rfl, rfl, rfl⟩ ⟨rfl, rfl, rfl, rfl, rfl, rfl, rfl, rfl, rfl⟩ lb_claim (by decide) (by decide) (by decide) (by decide) (by decide) hp hc hi hcell Tryz.underlying88 rfl (size_ofP info_claim) (zero_ofP info_claim) hfx hrow fun a0 w0 hp hk0 se hcs hBw => ?_)
  have hc := (hk0 17 (by decide) (by decide)).trans hc
  have hO := hO.later hBw
  obtain ⟨nb, hnb⟩ : ∃ nb, nb = w.heap.size := ⟨_, rfl⟩
  rw [← hnb] at se hcs
  show Code.wp _ (Code.region _ _ _) _ a0 w0
  refine sure_region (S := Below w0.drew.heap.size w0.drew) (heads := [_, _, _, _, _, _, _, _, _, _, _, _, _, _, _, _, _, _, _, _]) (tail := [_, _]) (by kernel_rfl) (by kernel_rfl) (Below.refl _ _) ?_
  have hO := hO.drew
  show wpHs _ _ [_, _, _, _, _, _, _, _, _, _, _, _, _, _, _, _, _, _, _, _] a0
  have hrow : ∀ m y, x[m]? = some y → ∀ w1, Below w0.drew.heap.size w0.drew w1 → w1.cell? ((⟨nb, 0, none⟩ : Addr).add m) = some y := fun m y hy w1 hw => by rw [add0B, hw.cell (p := ⟨nb, m, none⟩) hcs.lt]; exact (hcs.cell m).trans hy
  refine mv_c (F := fun l a => wpHs (Below w0.drew.heap.size w0.drew) _ l a) runs_s (d := 401) rfl rfl rfl (by rw [hp.size]; decide) hp.s3 fun a1 l1 vm => ?_
  have hB : Bm hb v 17 i 401 18 (.pointer (some ⟨nb, 0, none⟩)) a1 := ⟨hp.lo l1 (by decide), (l1.low 17 (by decide)).trans hc, vm, (l1.low 18 (by decide)).trans se⟩
  refine bf_s (u := w0.drew) (d := 402) (off := 0) fe_t ⟨rfl, rfl, rfl, rfl, rfl, ⟨_, rfl⟩, rfl, rfl, rfl⟩ hB (by decide) (by decide) (by decide) (by decide) (by decide) fx_claim_0 hfx rfl hsz hrow fun a2 hB eX => ?_
  refine bfa_s (u := w0.drew) (d := 405) (sx := 404) (o := 0) (n := 1) (off := 1) fe_n ⟨rfl, rfl, rfl, rfl, rfl, ⟨_, rfl⟩, rfl, rfl, rfl⟩ ⟨rfl, ⟨_, rfl⟩, rfl⟩ hB (by decide) (by decide) (by decide) (by decide) (by decide) (by decide) eX rfl hxl fx_claim_1 hfx rfl hsz hrow fun a2 hB eX => ?_
  refine bfa_s (u := w0.drew) (d := 409) (sx := 408) (o := 0) (n := 2) (off := 2) fe_key ⟨rfl, rfl, rfl, rfl, rfl, ⟨_, rfl⟩, rfl, rfl, rfl⟩ ⟨rfl, ⟨_, rfl⟩, rfl⟩ hB (by decide) (by decide) (by decide) (by decide) (by decide) (by decide) eX rfl hxl fx_claim_2 hfx rfl hsz hrow fun a2 hB eX => ?_
  refine bfa_s (u := w0.drew) (d := 413) (sx := 412) (o := 0) (n := 6) (off := 6) fe_n ⟨rfl, rfl, rfl, rfl, rfl, ⟨_, rfl⟩, rfl, rfl, rfl⟩ ⟨rfl, ⟨_, rfl⟩, rfl⟩ hB (by decide) (by decide) (by decide) (by decide) (by decide) (by decide) eX rfl hxl fx_claim_3 hfx rfl hsz hrow fun a2 hB eX => ?_
  refine bfa_s (u := w0.drew) (d := 417) (sx := 416) (o := 0) (n := 7) (off := 7) fe_n ⟨rfl, rfl, rfl, rfl, rfl, ⟨_, rfl⟩, rfl, rfl, rfl⟩ ⟨rfl, ⟨_, rfl⟩, rfl⟩ hB (by decide) (by decide) (by decide) (by decide) (by decide) (by decide) eX rfl hxl fx_claim_4 hfx rfl hsz hrow fun a2 hB eX => ?_
  intro w1 hw1
  refine ap_tail (m := 421) (s := 420) ⟨rfl, rfl, rfl, rfl, rfl, rfl⟩ hB eX (hO.later hw1) (by have := sg_len x 0 8; show _ + (sg x 0 8).length ≤ _; omega) (by decide) (by decide) (by decide) (by decide) (by decide) (by decide) fun a' w' v' q1 q2 q3 q4 q5 q6 => ?_
  have q5 : OB W (_ ++ sg x 0 8) v' w' := q5
  rw [sg_all x (n := 8) (fits_len hfx), ← bsJ_succ hx] at q5
  exact hQ a' w' v' q1 q5 q2
theorem fx_task_0 (b : Addr) (w : World) : (Instr.fieldAt 91 (.pointer (some b)) 0).run Tryz.prog w = .ok (.pointer (some (b.add 0))) w := by simp [go_sem]
theorem fx_task_1 (b : Addr) (w : World) : (Instr.fieldAt 91 (.pointer (some b)) 1).run Tryz.prog w = .ok (.pointer (some (b.add 1))) w := by simp [go_sem]
theorem fx_task_2 (b : Addr) (w : World) : (Instr.fieldAt 91 (.pointer (some b)) 2).run Tryz.prog w = .ok (.pointer (some (b.add 2))) w := by simp [go_sem]
theorem fx_task_3 (b : Addr) (w : World) : (Instr.fieldAt 91 (.pointer (some b)) 3).run Tryz.prog w = .ok (.pointer (some (b.add 3))) w := by simp [go_sem]
theorem fx_task_4 (b : Addr) (w : World) : (Instr.fieldAt 91 (.pointer (some b)) 4).run Tryz.prog w = .ok (.pointer (some (b.add 4))) w := by simp [go_sem]
theorem fx_task_5 (b : Addr) (w : World) : (Instr.fieldAt 91 (.pointer (some b)) 5).run Tryz.prog w = .ok (.pointer (some (b.add 8))) w := by simp [go_sem]
theorem fx_task_6 (b : Addr) (w : World) : (Instr.fieldAt 91 (.pointer (some b)) 6).run Tryz.prog w = .ok (.pointer (some (b.add 9))) w := by simp [go_sem]
theorem fx_task_7 (b : Addr) (w : World) : (Instr.fieldAt 91 (.pointer (some b)) 7).run Tryz.prog w = .ok (.pointer (some (b.add 10))) w := by simp [go_sem]
set_option maxHeartbeats 4000000 in
set_option maxRecDepth 100000 in
theorem bl_task {W : World} {hb : Nat} {vs : List Value} {R : Nat → List (List Value)} {z : Int} (hH : HW W hb vs R z) {a : Act} {w : World} {Q : Exit → Act → World → Prop} (h0 : LB W hb (encTo R 9 ++ digits (R 9).length) a w) (h : ∀ a' w', LB W hb (encTo R 10) a' w' → Q .normal a' w') : (partB 20).wp Tryz.prog Q a w := by
  refine bl_list (j := 9) (ct := 19) (hd := 428) (di := 433) (by decide) rfl rfl rfl ⟨rfl, rfl, rfl, rfl, rfl, rfl, rfl, rfl, rfl, ⟨_, rfl⟩, rfl, rfl, rfl, rfl, rfl⟩ ⟨rfl, rfl, rfl, rfl, ⟨_, rfl⟩, rfl, rfl, rfl, rfl⟩ (by decide) (by decide) (by decide) (by decide) (by decide) (by decide) lb_task Tryz.underlying31 hH ?_ h0 h
  intro a w i v Q hi hp hO hc hQ
  obtain ⟨x, ad, c, hx, hcell, hrow, hfx, hblk⟩ := hH.num hO.below (by decide : 9 < 14) hi
  have hxl := hH.xl (by decide : 9 < 14) hx
  have hsz := sz_of hxl
  have hxl : (encs x).length ≤ 1000000000000 := Nat.le_trans hxl (by decide)
  have hle := bsJ_le R z (by decide : 9 < 14) (i + 1)
  rw [bsJ_succ hx, List.length_append] at hle
  have hhl := hH.len
  have hbs : (bsJ R 9 i).length ≤ 100000000 := by omega
  have hi0 := hi
  obtain ⟨n, hn⟩ : ∃ n, n = (R 9).length := ⟨_, rfl⟩
  rw [← hn] at hi hcell
  refine wp_seq (cp_region (d := 435) (e := 20) (sz := 11) (ct := 19) (ks := ks_task) ⟨rfl, rfl, rfl, rfl, rfl, rfl, rfl, rfl, rfl, rfl, rfl, rfl⟩ ⟨rfl, rfl, rfl, rfl, rfl, rfl, rfl, rfl, rfl⟩ lb_task (by decide) (by decide) (by decide) (by decide) (by decide) hp hc hi hcell Tryz.underlying91 rfl (size_ofP info_task) (zero_ofP info_task) hfx hrow fun a0 w0 hp hk0 se hcs hBw => ?_)
  have hc := (hk0 19 (by decide) (by decide)).trans hc
  have hO := hO.later hBw
  obtain ⟨nb, hnb⟩ : ∃ nb, nb = w.heap.size := ⟨_, rfl⟩
  rw [← hnb] at se hcs
  show Code.wp _ (Code.region _ _ _) _ a0 w0
  refine sure_region (S := Below w0.drew.heap.size w0.drew) (heads := [_, _, _, _, _, _, _, _, _, _, _, _, _, _, _, _, _, _, _, _, _, _, _, _, _, _, _, _, _, _, _, _]) (tail := [_, _]) (by kernel_rfl) (by kernel_rfl) (Below.refl _ _) ?_
  have hO := hO.drew
  show wpHs _ _ [_, _, _, _, _, _, _, _, _, _, _, _, _, _, _, _, _, _, _, _, _, _, _, _, _, _, _, _, _, _, _, _] a0
  have hrow : ∀ m y, x[m]? = some y → ∀ w1, Below w0.drew.heap.size w0.drew w1 → w1.cell? ((⟨nb, 0, none⟩ : Addr).add m) = some y := fun m y hy w1 hw => by rw [add0B, hw.cell (p := ⟨nb, m, none⟩) hcs.lt]; exact (hcs.cell m).trans hy
  refine mv_c (F := fun l a => wpHs (Below w0.drew.heap.size w0.drew) _ l a) runs_s (d := 440) rfl rfl rfl (by rw [hp.size]; decide) hp.s3 fun a1 l1 vm => ?_
  have hB : Bm hb v 19 i 440 20 (.pointer (some ⟨nb, 0, none⟩)) a1 := ⟨hp.lo l1 (by decide), (l1.low 19 (by decide)).trans hc, vm, (l1.low 20 (by decide)).trans se⟩
  refine bf_s (u := w0.drew) (d := 441) (off := 0) fe_n ⟨rfl, rfl, rfl, rfl, rfl, ⟨_, rfl⟩, rfl, rfl, rfl⟩ hB (by decide) (by decide) (by decide) (by decide) (by decide) fx_task_0 hfx rfl hsz hrow fun a2 hB eX => ?_
  refine bfa_s (u := w0.drew) (d := 444) (sx := 443) (o := 0) (n := 1) (off := 1) fe_n ⟨rfl, rfl, rfl, rfl, rfl, ⟨_, rfl⟩, rfl, rfl, rfl⟩ ⟨rfl, ⟨_, rfl⟩, rfl⟩ hB (by decide) (by decide) (by decide) (by decide) (by decide) (by decide) eX rfl hxl fx_task_1 hfx rfl hsz hrow fun a2 hB eX => ?_
  refine bfa_s (u := w0.drew) (d := 448) (sx := 447) (o := 0) (n := 2) (off := 2) fe_t ⟨rfl, rfl, rfl, rfl, rfl, ⟨_, rfl⟩, rfl, rfl, rfl⟩ ⟨rfl, ⟨_, rfl⟩, rfl⟩ hB (by decide) (by decide) (by decide) (by decide) (by decide) (by decide) eX rfl hxl fx_task_2 hfx rfl hsz hrow fun a2 hB eX => ?_
  refine bfa_s (u := w0.drew) (d := 452) (sx := 451) (o := 0) (n := 3) (off := 3) fe_n ⟨rfl, rfl, rfl, rfl, rfl, ⟨_, rfl⟩, rfl, rfl, rfl⟩ ⟨rfl, ⟨_, rfl⟩, rfl⟩ hB (by decide) (by decide) (by decide) (by decide) (by decide) (by decide) eX rfl hxl fx_task_3 hfx rfl hsz hrow fun a2 hB eX => ?_
  refine bfa_s (u := w0.drew) (d := 456) (sx := 455) (o := 0) (n := 4) (off := 4) fe_key ⟨rfl, rfl, rfl, rfl, rfl, ⟨_, rfl⟩, rfl, rfl, rfl⟩ ⟨rfl, ⟨_, rfl⟩, rfl⟩ hB (by decide) (by decide) (by decide) (by decide) (by decide) (by decide) eX rfl hxl fx_task_4 hfx rfl hsz hrow fun a2 hB eX => ?_
  refine bfa_s (u := w0.drew) (d := 460) (sx := 459) (o := 0) (n := 8) (off := 8) fe_t ⟨rfl, rfl, rfl, rfl, rfl, ⟨_, rfl⟩, rfl, rfl, rfl⟩ ⟨rfl, ⟨_, rfl⟩, rfl⟩ hB (by decide) (by decide) (by decide) (by decide) (by decide) (by decide) eX rfl hxl fx_task_5 hfx rfl hsz hrow fun a2 hB eX => ?_
  refine bfa_s (u := w0.drew) (d := 464) (sx := 463) (o := 0) (n := 9) (off := 9) fe_n ⟨rfl, rfl, rfl, rfl, rfl, ⟨_, rfl⟩, rfl, rfl, rfl⟩ ⟨rfl, ⟨_, rfl⟩, rfl⟩ hB (by decide) (by decide) (by decide) (by decide) (by decide) (by decide) eX rfl hxl fx_task_6 hfx rfl hsz hrow fun a2 hB eX => ?_
  refine bfa_s (u := w0.drew) (d := 468) (sx := 467) (o := 0) (n := 10) (off := 10) fe_t ⟨rfl, rfl, rfl, rfl, rfl, ⟨_, rfl⟩, rfl, rfl, rfl⟩ ⟨rfl, ⟨_, rfl⟩, rfl⟩ hB (by decide) (by decide) (by decide) (by decide) (by decide) (by decide) eX rfl hxl fx_task_7 hfx rfl hsz hrow fun a2 hB eX => ?_
  intro w1 hw1
  refine ap_tail (m := 472) (s := 471) ⟨rfl, rfl, rfl, rfl, rfl, rfl⟩ hB eX (hO.later hw1) (by have := sg_len x 0 11; show _ + (sg x 0 11).length ≤ _; omega) (by decide) (by decide) (by decide) (by decide) (by decide) (by decide) fun a' w' v' q1 q2 q3 q4 q5 q6 => ?_
  have q5 : OB W (_ ++ sg x 0 11) v' w' := q5
  rw [sg_all x (n := 11) (fits_len hfx), ← bsJ_succ hx] at q5
  exact hQ a' w' v' q1 q5 q2
theorem fx_parcel_0 (b : Addr) (w : World) : (Instr.fieldAt 94 (.pointer (some b)) 0).run Tryz.prog w = .ok (.pointer (some (b.add 0))) w := by simp [go_sem]
theorem fx_parcel_1 (b : Addr) (w : World) : (Instr.fieldAt 94 (.pointer (some b)) 1).run Tryz.prog w = .ok (.pointer (some (b.add 1))) w := by simp [go_sem]
set_option maxHeartbeats 4000000 in
set_option maxRecDepth 100000 in
theorem bl_parcel {W : World} {hb : Nat} {vs : List Value} {R : Nat → List (List Value)} {z : Int} (hH : HW W hb vs R z) {a : Act} {w : World} {Q : Exit → Act → World → Prop} (h0 : LB W hb (encTo R 10 ++ digits (R 10).length) a w) (h : ∀ a' w', LB W hb (encTo R 11) a' w' → Q .normal a' w') : (partB 22).wp Tryz.prog Q a w := by
  refine bl_list (j := 10) (ct := 21) (hd := 479) (di := 484) (by decide) rfl rfl rfl ⟨rfl, rfl, rfl, rfl, rfl, rfl, rfl, rfl, rfl, ⟨_, rfl⟩, rfl, rfl, rfl, rfl, rfl⟩ ⟨rfl, rfl, rfl, rfl, ⟨_, rfl⟩, rfl, rfl, rfl, rfl⟩ (by decide) (by decide) (by decide) (by decide) (by decide) (by decide) lb_parcel Tryz.underlying32 hH ?_ h0 h
  intro a w i v Q hi hp hO hc hQ
  obtain ⟨x, ad, c, hx, hcell, hrow, hfx, hblk⟩ := hH.num hO.below (by decide : 10 < 14) hi
  have hxl := hH.xl (by decide : 10 < 14) hx
  have hsz := sz_of hxl
  have hxl : (encs x).length ≤ 1000000000000 := Nat.le_trans hxl (by decide)
  have hle := bsJ_le R z (by decide : 10 < 14) (i + 1)
  rw [bsJ_succ hx, List.length_append] at hle
  have hhl := hH.len
  have hbs : (bsJ R 10 i).length ≤ 100000000 := by omega
  have hi0 := hi
  obtain ⟨n, hn⟩ : ∃ n, n = (R 10).length := ⟨_, rfl⟩
  rw [← hn] at hi hcell
  refine sure_region (S := Below w.drew.heap.size w.drew) (heads := [_, _, _, _, _, _, _, _, _, _, _, _, _, _, _, _]) (tail := [_, _]) (by kernel_rfl) (by kernel_rfl) (Below.refl _ _) ?_
  have hO := hO.drew
  show wpHs _ _ [_, _, _, _, _, _, _, _, _, _, _, _, _, _, _, _] a
  have hcell : ∀ w1, Below w.drew.heap.size w.drew w1 → w1.cell? ⟨hb, 10, none⟩ = some (.slice (some ad) n c) := fun w1 hw => by rw [hw.cell (p := ⟨hb, 10, none⟩) (Nat.lt_of_lt_of_le hH.cs.lt hO.below.size)]; exact hcell
  have hrow : ∀ m y, x[m]? = some y → ∀ w1, Below w.drew.heap.size w.drew w1 → w1.cell? ((ad.add (i * 2)).add m) = some y := fun m y hy w1 hw => by rw [add_of_add, hw.cell (p := ad.add (i * 2 + m)) (by rw [block_of_add]; exact Nat.lt_of_lt_of_le hblk hO.below.size)]; exact hrow m y hy
  refine mv_c (F := fun l a => wpHs (Below w.drew.heap.size w.drew) _ l a) runs_s (d := 486) rfl rfl rfl (by rw [hp.size]; decide) hp.s3 fun a1 l1 vm => ?_
  have hB : Bm hb v 21 i 486 21 (.int .i64 (i : Int)) a1 := ⟨hp.lo l1 (by decide), (l1.low 21 (by decide)).trans hc, vm, (l1.low 21 (by decide)).trans hc⟩
  refine df_s (u := w.drew) (d := 487) (off := 0) (i := i) lb_parcel ⟨rfl, rfl, rfl, rfl, rfl, rfl, rfl, rfl, rfl, rfl, rfl, rfl⟩ fe_t ⟨rfl, rfl, rfl, rfl, rfl, ⟨_, rfl⟩, rfl, rfl, rfl⟩ hB (by decide) (by decide) (by decide) (by decide) (by decide) hi hcell fx_parcel_0 hfx rfl hsz hrow fun a2 _ hB eX => ?_
  refine dfa_s (u := w.drew) (d := 494) (sx := 493) (o := 0) (k := 1) (off := 1) (i := i) lb_parcel ⟨rfl, rfl, rfl, rfl, rfl, rfl, rfl, rfl, rfl, rfl, rfl, rfl⟩ fe_t ⟨rfl, rfl, rfl, rfl, rfl, ⟨_, rfl⟩, rfl, rfl, rfl⟩ ⟨rfl, ⟨_, rfl⟩, rfl⟩ hB (by decide) (by decide) (by decide) (by decide) (by decide) (by decide) hi eX rfl hxl hcell fx_parcel_1 hfx rfl hsz hrow fun a2 hB eX => ?_
  intro w1 hw1
  refine ap_tail (m := 502) (s := 501) ⟨rfl, rfl, rfl, rfl, rfl, rfl⟩ hB eX (hO.later hw1) (by have := sg_len x 0 2; show _ + (sg x 0 2).length ≤ _; omega) (by decide) (by decide) (by decide) (by decide) (by decide) (by decide) fun a' w' v' q1 q2 q3 q4 q5 q6 => ?_
  have q5 : OB W (_ ++ sg x 0 2) v' w' := q5
  rw [sg_all x (n := 2) (fits_len hfx), ← bsJ_succ hx] at q5
  exact hQ a' w' v' q1 q5 q2
theorem fx_sent_0 (b : Addr) (w : World) : (Instr.fieldAt 97 (.pointer (some b)) 0).run Tryz.prog w = .ok (.pointer (some (b.add 0))) w := by simp [go_sem]
theorem fx_sent_1 (b : Addr) (w : World) : (Instr.fieldAt 97 (.pointer (some b)) 1).run Tryz.prog w = .ok (.pointer (some (b.add 1))) w := by simp [go_sem]
theorem fx_sent_2 (b : Addr) (w : World) : (Instr.fieldAt 97 (.pointer (some b)) 2).run Tryz.prog w = .ok (.pointer (some (b.add 2))) w := by simp [go_sem]
theorem fx_sent_3 (b : Addr) (w : World) : (Instr.fieldAt 97 (.pointer (some b)) 3).run Tryz.prog w = .ok (.pointer (some (b.add 3))) w := by simp [go_sem]
theorem fx_sent_4 (b : Addr) (w : World) : (Instr.fieldAt 97 (.pointer (some b)) 4).run Tryz.prog w = .ok (.pointer (some (b.add 4))) w := by simp [go_sem]
set_option maxHeartbeats 4000000 in
set_option maxRecDepth 100000 in
theorem bl_sent {W : World} {hb : Nat} {vs : List Value} {R : Nat → List (List Value)} {z : Int} (hH : HW W hb vs R z) {a : Act} {w : World} {Q : Exit → Act → World → Prop} (h0 : LB W hb (encTo R 11 ++ digits (R 11).length) a w) (h : ∀ a' w', LB W hb (encTo R 12) a' w' → Q .normal a' w') : (partB 24).wp Tryz.prog Q a w := by
  refine bl_list (j := 11) (ct := 22) (hd := 509) (di := 514) (by decide) rfl rfl rfl ⟨rfl, rfl, rfl, rfl, rfl, rfl, rfl, rfl, rfl, ⟨_, rfl⟩, rfl, rfl, rfl, rfl, rfl⟩ ⟨rfl, rfl, rfl, rfl, ⟨_, rfl⟩, rfl, rfl, rfl, rfl⟩ (by decide) (by decide) (by decide) (by decide) (by decide) (by decide) lb_sent Tryz.underlying33 hH ?_ h0 h
  intro a w i v Q hi hp hO hc hQ
  obtain ⟨x, ad, c, hx, hcell, hrow, hfx, hblk⟩ := hH.num hO.below (by decide : 11 < 14) hi
  have hxl := hH.xl (by decide : 11 < 14) hx
  have hsz := sz_of hxl
  have hxl : (encs x).length ≤ 1000000000000 := Nat.le_trans hxl (by decide)
  have hle := bsJ_le R z (by decide : 11 < 14) (i + 1)
  rw [bsJ_succ hx, List.length_append] at hle
  have hhl := hH.len
  have hbs : (bsJ R 11 i).length ≤ 100000000 := by omega
  have hi0 := hi
  obtain ⟨n, hn⟩ : ∃ n, n = (R 11).length := ⟨_, rfl⟩
  rw [← hn] at hi hcell
  refine wp_seq (cp_region (d := 516) (e := 23) (sz := 5) (ct := 22) (ks := ks_sent) ⟨rfl, rfl, rfl, rfl, rfl, rfl, rfl, rfl, rfl, rfl, rfl, rfl⟩ ⟨rfl, rfl, rfl, rfl, rfl, rfl, rfl, rfl, rfl⟩ lb_sent (by decide) (by decide) (by decide) (by decide) (by decide) hp hc hi hcell Tryz.underlying97 rfl (size_ofP info_sent) (zero_ofP info_sent) hfx hrow fun a0 w0 hp hk0 se hcs hBw => ?_)
  have hc := (hk0 22 (by decide) (by decide)).trans hc
  have hO := hO.later hBw
  obtain ⟨nb, hnb⟩ : ∃ nb, nb = w.heap.size := ⟨_, rfl⟩
  rw [← hnb] at se hcs
  show Code.wp _ (Code.region _ _ _) _ a0 w0
  refine sure_region (S := Below w0.drew.heap.size w0.drew) (heads := [_, _, _, _, _, _, _, _, _, _, _, _, _, _, _, _, _, _, _, _]) (tail := [_, _]) (by kernel_rfl) (by kernel_rfl) (Below.refl _ _) ?_
  have hO := hO.drew
  show wpHs _ _ [_, _, _, _, _, _, _, _, _, _, _, _, _, _, _, _, _, _, _, _] a0
  have hrow : ∀ m y, x[m]? = some y → ∀ w1, Below w0.drew.heap.size w0.drew w1 → w1.cell? ((⟨nb, 0, none⟩ : Addr).add m) = some y := fun m y hy w1 hw => by rw [add0B, hw.cell (p := ⟨nb, m, none⟩) hcs.lt]; exact (hcs.cell m).trans hy
  refine mv_c (F := fun l a => wpHs (Below w0.drew.heap.size w0.drew) _ l a) runs_s (d := 521) rfl rfl rfl (by rw [hp.size]; decide) hp.s3 fun a1 l1 vm => ?_
  have hB : Bm hb v 22 i 521 23 (.pointer (some ⟨nb, 0, none⟩)) a1 := ⟨hp.lo l1 (by decide), (l1.low 22 (by decide)).trans hc, vm, (l1.low 23 (by decide)).trans se⟩
  refine bf_s (u := w0.drew) (d := 522) (off := 0) fe_t ⟨rfl, rfl, rfl, rfl, rfl, ⟨_, rfl⟩, rfl, rfl, rfl⟩ hB (by decide) (by decide) (by decide) (by decide) (by decide) fx_sent_0 hfx rfl hsz hrow fun a2 hB eX => ?_
  refine bfa_s (u := w0.drew) (d := 525) (sx := 524) (o := 0) (n := 1) (off := 1) fe_t ⟨rfl, rfl, rfl, rfl, rfl, ⟨_, rfl⟩, rfl, rfl, rfl⟩ ⟨rfl, ⟨_, rfl⟩, rfl⟩ hB (by decide) (by decide) (by decide) (by decide) (by decide) (by decide) eX rfl hxl fx_sent_1 hfx rfl hsz hrow fun a2 hB eX => ?_
  refine bfa_s (u := w0.drew) (d := 529) (sx := 528) (o := 0) (n := 2) (off := 2) fe_t ⟨rfl, rfl, rfl, rfl, rfl, ⟨_, rfl⟩, rfl, rfl, rfl⟩ ⟨rfl, ⟨_, rfl⟩, rfl⟩ hB (by decide) (by decide) (by decide) (by decide) (by decide) (by decide) eX rfl hxl fx_sent_2 hfx rfl hsz hrow fun a2 hB eX => ?_
  refine bfa_s (u := w0.drew) (d := 533) (sx := 532) (o := 0) (n := 3) (off := 3) fe_n ⟨rfl, rfl, rfl, rfl, rfl, ⟨_, rfl⟩, rfl, rfl, rfl⟩ ⟨rfl, ⟨_, rfl⟩, rfl⟩ hB (by decide) (by decide) (by decide) (by decide) (by decide) (by decide) eX rfl hxl fx_sent_3 hfx rfl hsz hrow fun a2 hB eX => ?_
  refine bfa_s (u := w0.drew) (d := 537) (sx := 536) (o := 0) (n := 4) (off := 4) fe_n ⟨rfl, rfl, rfl, rfl, rfl, ⟨_, rfl⟩, rfl, rfl, rfl⟩ ⟨rfl, ⟨_, rfl⟩, rfl⟩ hB (by decide) (by decide) (by decide) (by decide) (by decide) (by decide) eX rfl hxl fx_sent_4 hfx rfl hsz hrow fun a2 hB eX => ?_
  intro w1 hw1
  refine ap_tail (m := 541) (s := 540) ⟨rfl, rfl, rfl, rfl, rfl, rfl⟩ hB eX (hO.later hw1) (by have := sg_len x 0 5; show _ + (sg x 0 5).length ≤ _; omega) (by decide) (by decide) (by decide) (by decide) (by decide) (by decide) fun a' w' v' q1 q2 q3 q4 q5 q6 => ?_
  have q5 : OB W (_ ++ sg x 0 5) v' w' := q5
  rw [sg_all x (n := 5) (fits_len hfx), ← bsJ_succ hx] at q5
  exact hQ a' w' v' q1 q5 q2
theorem fx_counted_0 (b : Addr) (w : World) : (Instr.fieldAt 100 (.pointer (some b)) 0).run Tryz.prog w = .ok (.pointer (some (b.add 0))) w := by simp [go_sem]
theorem fx_counted_1 (b : Addr) (w : World) : (Instr.fieldAt 100 (.pointer (some b)) 1).run Tryz.prog w = .ok (.pointer (some (b.add 4))) w := by simp [go_sem]
set_option maxHeartbeats 4000000 in
set_option maxRecDepth 100000 in
theorem bl_counted {W : World} {hb : Nat} {vs : List Value} {R : Nat → List (List Value)} {z : Int} (hH : HW W hb vs R z) {a : Act} {w : World} {Q : Exit → Act → World → Prop} (h0 : LB W hb (encTo R 12 ++ digits (R 12).length) a w) (h : ∀ a' w', LB W hb (encTo R 13) a' w' → Q .normal a' w') : (partB 26).wp Tryz.prog Q a w := by
  refine bl_list (j := 12) (ct := 24) (hd := 548) (di := 553) (by decide) rfl rfl rfl ⟨rfl, rfl, rfl, rfl, rfl, rfl, rfl, rfl, rfl, ⟨_, rfl⟩, rfl, rfl, rfl, rfl, rfl⟩ ⟨rfl, rfl, rfl, rfl, ⟨_, rfl⟩, rfl, rfl, rfl, rfl⟩ (by decide) (by decide) (by decide) (by decide) (by decide) (by decide) lb_counted Tryz.underlying34 hH ?_ h0 h
  intro a w i v Q hi hp hO hc hQ
  obtain ⟨x, ad, c, hx, hcell, hrow, hfx, hblk⟩ := hH.num hO.below (by decide : 12 < 14) hi
  have hxl := hH.xl (by decide : 12 < 14) hx
  have hsz := sz_of hxl
  have hxl : (encs x).length ≤ 1000000000000 := Nat.le_trans hxl (by decide)
  have hle := bsJ_le R z (by decide : 12 < 14) (i + 1)
  rw [bsJ_succ hx, List.length_append] at hle
  have hhl := hH.len
  have hbs : (bsJ R 12 i).length ≤ 100000000 := by omega
  have hi0 := hi
  obtain ⟨n, hn⟩ : ∃ n, n = (R 12).length := ⟨_, rfl⟩
  rw [← hn] at hi hcell
  refine sure_region (S := Below w.drew.heap.size w.drew) (heads := [_, _, _, _, _, _, _, _, _, _, _, _, _, _, _, _]) (tail := [_, _]) (by kernel_rfl) (by kernel_rfl) (Below.refl _ _) ?_
  have hO := hO.drew
  show wpHs _ _ [_, _, _, _, _, _, _, _, _, _, _, _, _, _, _, _] a
  have hcell : ∀ w1, Below w.drew.heap.size w.drew w1 → w1.cell? ⟨hb, 12, none⟩ = some (.slice (some ad) n c) := fun w1 hw => by rw [hw.cell (p := ⟨hb, 12, none⟩) (Nat.lt_of_lt_of_le hH.cs.lt hO.below.size)]; exact hcell
  have hrow : ∀ m y, x[m]? = some y → ∀ w1, Below w.drew.heap.size w.drew w1 → w1.cell? ((ad.add (i * 5)).add m) = some y := fun m y hy w1 hw => by rw [add_of_add, hw.cell (p := ad.add (i * 5 + m)) (by rw [block_of_add]; exact Nat.lt_of_lt_of_le hblk hO.below.size)]; exact hrow m y hy
  refine mv_c (F := fun l a => wpHs (Below w.drew.heap.size w.drew) _ l a) runs_s (d := 555) rfl rfl rfl (by rw [hp.size]; decide) hp.s3 fun a1 l1 vm => ?_
  have hB : Bm hb v 24 i 555 24 (.int .i64 (i : Int)) a1 := ⟨hp.lo l1 (by decide), (l1.low 24 (by decide)).trans hc, vm, (l1.low 24 (by decide)).trans hc⟩
  refine df_s (u := w.drew) (d := 556) (off := 0) (i := i) lb_counted ⟨rfl, rfl, rfl, rfl, rfl, rfl, rfl, rfl, rfl, rfl, rfl, rfl⟩ fe_key ⟨rfl, rfl, rfl, rfl, rfl, ⟨_, rfl⟩, rfl, rfl, rfl⟩ hB (by decide) (by decide) (by decide) (by decide) (by decide) hi hcell fx_counted_0 hfx rfl hsz hrow fun a2 _ hB eX => ?_
  refine dfa_s (u := w.drew) (d := 563) (sx := 562) (o := 0) (k := 4) (off := 4) (i := i) lb_counted ⟨rfl, rfl, rfl, rfl, rfl, rfl, rfl, rfl, rfl, rfl, rfl, rfl⟩ fe_n ⟨rfl, rfl, rfl, rfl, rfl, ⟨_, rfl⟩, rfl, rfl, rfl⟩ ⟨rfl, ⟨_, rfl⟩, rfl⟩ hB (by decide) (by decide) (by decide) (by decide) (by decide) (by decide) hi eX rfl hxl hcell fx_counted_1 hfx rfl hsz hrow fun a2 hB eX => ?_
  intro w1 hw1
  refine ap_tail (m := 571) (s := 570) ⟨rfl, rfl, rfl, rfl, rfl, rfl⟩ hB eX (hO.later hw1) (by have := sg_len x 0 5; show _ + (sg x 0 5).length ≤ _; omega) (by decide) (by decide) (by decide) (by decide) (by decide) (by decide) fun a' w' v' q1 q2 q3 q4 q5 q6 => ?_
  have q5 : OB W (_ ++ sg x 0 5) v' w' := q5
  rw [sg_all x (n := 5) (fits_len hfx), ← bsJ_succ hx] at q5
  exact hQ a' w' v' q1 q5 q2
theorem fx_total_0 (b : Addr) (w : World) : (Instr.fieldAt 103 (.pointer (some b)) 0).run Tryz.prog w = .ok (.pointer (some (b.add 0))) w := by simp [go_sem]
theorem fx_total_1 (b : Addr) (w : World) : (Instr.fieldAt 103 (.pointer (some b)) 1).run Tryz.prog w = .ok (.pointer (some (b.add 1))) w := by simp [go_sem]
theorem fx_total_2 (b : Addr) (w : World) : (Instr.fieldAt 103 (.pointer (some b)) 2).run Tryz.prog w = .ok (.pointer (some (b.add 2))) w := by simp [go_sem]
theorem fx_total_3 (b : Addr) (w : World) : (Instr.fieldAt 103 (.pointer (some b)) 3).run Tryz.prog w = .ok (.pointer (some (b.add 3))) w := by simp [go_sem]
theorem fx_total_4 (b : Addr) (w : World) : (Instr.fieldAt 103 (.pointer (some b)) 4).run Tryz.prog w = .ok (.pointer (some (b.add 4))) w := by simp [go_sem]
theorem fx_total_5 (b : Addr) (w : World) : (Instr.fieldAt 103 (.pointer (some b)) 5).run Tryz.prog w = .ok (.pointer (some (b.add 5))) w := by simp [go_sem]
set_option maxHeartbeats 4000000 in
set_option maxRecDepth 100000 in
theorem bl_total {W : World} {hb : Nat} {vs : List Value} {R : Nat → List (List Value)} {z : Int} (hH : HW W hb vs R z) {a : Act} {w : World} {Q : Exit → Act → World → Prop} (h0 : LB W hb (encTo R 13 ++ digits (R 13).length) a w) (h : ∀ a' w', LB W hb (encTo R 14) a' w' → Q .normal a' w') : (partB 28).wp Tryz.prog Q a w := by
  refine bl_list (j := 13) (ct := 25) (hd := 578) (di := 583) (by decide) rfl rfl rfl ⟨rfl, rfl, rfl, rfl, rfl, rfl, rfl, rfl, rfl, ⟨_, rfl⟩, rfl, rfl, rfl, rfl, rfl⟩ ⟨rfl, rfl, rfl, rfl, ⟨_, rfl⟩, rfl, rfl, rfl, rfl⟩ (by decide) (by decide) (by decide) (by decide) (by decide) (by decide) lb_total Tryz.underlying35 hH ?_ h0 h
  intro a w i v Q hi hp hO hc hQ
  obtain ⟨x, ad, c, hx, hcell, hrow, hfx, hblk⟩ := hH.num hO.below (by decide : 13 < 14) hi
  have hxl := hH.xl (by decide : 13 < 14) hx
  have hsz := sz_of hxl
  have hxl : (encs x).length ≤ 1000000000000 := Nat.le_trans hxl (by decide)
  have hle := bsJ_le R z (by decide : 13 < 14) (i + 1)
  rw [bsJ_succ hx, List.length_append] at hle
  have hhl := hH.len
  have hbs : (bsJ R 13 i).length ≤ 100000000 := by omega
  have hi0 := hi
  obtain ⟨n, hn⟩ : ∃ n, n = (R 13).length := ⟨_, rfl⟩
  rw [← hn] at hi hcell
  refine wp_seq (cp_region (d := 585) (e := 26) (sz := 6) (ct := 25) (ks := ks_total) ⟨rfl, rfl, rfl, rfl, rfl, rfl, rfl, rfl, rfl, rfl, rfl, rfl⟩ ⟨rfl, rfl, rfl, rfl, rfl, rfl, rfl, rfl, rfl⟩ lb_total (by decide) (by decide) (by decide) (by decide) (by decide) hp hc hi hcell Tryz.underlying103 rfl (size_ofP info_total) (zero_ofP info_total) hfx hrow fun a0 w0 hp hk0 se hcs hBw => ?_)
  have hc := (hk0 25 (by decide) (by decide)).trans hc
  have hO := hO.later hBw
  obtain ⟨nb, hnb⟩ : ∃ nb, nb = w.heap.size := ⟨_, rfl⟩
  rw [← hnb] at se hcs
  show Code.wp _ (Code.region _ _ _) _ a0 w0
  refine sure_region (S := Below w0.drew.heap.size w0.drew) (heads := [_, _, _, _, _, _, _, _, _, _, _, _, _, _, _, _, _, _, _, _, _, _, _, _]) (tail := [_, _]) (by kernel_rfl) (by kernel_rfl) (Below.refl _ _) ?_
  have hO := hO.drew
  show wpHs _ _ [_, _, _, _, _, _, _, _, _, _, _, _, _, _, _, _, _, _, _, _, _, _, _, _] a0
  have hrow : ∀ m y, x[m]? = some y → ∀ w1, Below w0.drew.heap.size w0.drew w1 → w1.cell? ((⟨nb, 0, none⟩ : Addr).add m) = some y := fun m y hy w1 hw => by rw [add0B, hw.cell (p := ⟨nb, m, none⟩) hcs.lt]; exact (hcs.cell m).trans hy
  refine mv_c (F := fun l a => wpHs (Below w0.drew.heap.size w0.drew) _ l a) runs_s (d := 590) rfl rfl rfl (by rw [hp.size]; decide) hp.s3 fun a1 l1 vm => ?_
  have hB : Bm hb v 25 i 590 26 (.pointer (some ⟨nb, 0, none⟩)) a1 := ⟨hp.lo l1 (by decide), (l1.low 25 (by decide)).trans hc, vm, (l1.low 26 (by decide)).trans se⟩
  refine bf_s (u := w0.drew) (d := 591) (off := 0) fe_t ⟨rfl, rfl, rfl, rfl, rfl, ⟨_, rfl⟩, rfl, rfl, rfl⟩ hB (by decide) (by decide) (by decide) (by decide) (by decide) fx_total_0 hfx rfl hsz hrow fun a2 hB eX => ?_
  refine bfa_s (u := w0.drew) (d := 594) (sx := 593) (o := 0) (n := 1) (off := 1) fe_t ⟨rfl, rfl, rfl, rfl, rfl, ⟨_, rfl⟩, rfl, rfl, rfl⟩ ⟨rfl, ⟨_, rfl⟩, rfl⟩ hB (by decide) (by decide) (by decide) (by decide) (by decide) (by decide) eX rfl hxl fx_total_1 hfx rfl hsz hrow fun a2 hB eX => ?_
  refine bfa_s (u := w0.drew) (d := 598) (sx := 597) (o := 0) (n := 2) (off := 2) fe_n ⟨rfl, rfl, rfl, rfl, rfl, ⟨_, rfl⟩, rfl, rfl, rfl⟩ ⟨rfl, ⟨_, rfl⟩, rfl⟩ hB (by decide) (by decide) (by decide) (by decide) (by decide) (by decide) eX rfl hxl fx_total_2 hfx rfl hsz hrow fun a2 hB eX => ?_
  refine bfa_s (u := w0.drew) (d := 602) (sx := 601) (o := 0) (n := 3) (off := 3) fe_n ⟨rfl, rfl, rfl, rfl, rfl, ⟨_, rfl⟩, rfl, rfl, rfl⟩ ⟨rfl, ⟨_, rfl⟩, rfl⟩ hB (by decide) (by decide) (by decide) (by decide) (by decide) (by decide) eX rfl hxl fx_total_3 hfx rfl hsz hrow fun a2 hB eX => ?_
  refine bfa_s (u := w0.drew) (d := 606) (sx := 605) (o := 0) (n := 4) (off := 4) fe_n ⟨rfl, rfl, rfl, rfl, rfl, ⟨_, rfl⟩, rfl, rfl, rfl⟩ ⟨rfl, ⟨_, rfl⟩, rfl⟩ hB (by decide) (by decide) (by decide) (by decide) (by decide) (by decide) eX rfl hxl fx_total_4 hfx rfl hsz hrow fun a2 hB eX => ?_
  refine bfa_s (u := w0.drew) (d := 610) (sx := 609) (o := 0) (n := 5) (off := 5) fe_n ⟨rfl, rfl, rfl, rfl, rfl, ⟨_, rfl⟩, rfl, rfl, rfl⟩ ⟨rfl, ⟨_, rfl⟩, rfl⟩ hB (by decide) (by decide) (by decide) (by decide) (by decide) (by decide) eX rfl hxl fx_total_5 hfx rfl hsz hrow fun a2 hB eX => ?_
  intro w1 hw1
  refine ap_tail (m := 614) (s := 613) ⟨rfl, rfl, rfl, rfl, rfl, rfl⟩ hB eX (hO.later hw1) (by have := sg_len x 0 6; show _ + (sg x 0 6).length ≤ _; omega) (by decide) (by decide) (by decide) (by decide) (by decide) (by decide) fun a' w' v' q1 q2 q3 q4 q5 q6 => ?_
  have q5 : OB W (_ ++ sg x 0 6) v' w' := q5
  rw [sg_all x (n := 6) (fits_len hfx), ← bsJ_succ hx] at q5
  exact hQ a' w' v' q1 q5 q2
end Go.Proofs.YtgdoodeibcfcjaaGreat.Wire
