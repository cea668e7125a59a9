-- Written by xprint.py, a program of this session, by the kit's printer.
import Derived.Test.YtojehachhfcfaaaPrint0
import Derived.Test.YtojehachhfcfaaaPrint3
import Derived.Test.YtojehachhfcfaaaPrint4
namespace Go.Proofs.Ytojehachhfcfaaa.Print
open Go.RowKit Go.Proofs.YtojehachhfcfaaaW.PrintWords Go.Proofs.YtojehachhfcfaaaW.PrintLast Go.Proofs.YtojehachhfcfaaaW.PrintMore
attribute [local go_sem] max2_int min2_int max_two min_two max_three min_three max_four min_four   -- for this text's walks alone
set_option linter.unusedVariables false
set_option linter.unusedSimpArgs false

/-! ### stevedorelaw04_FramesTorn: function 7 -/
mutual
def stevedorelaw04_FramesTorn.j0 : Nat → Int → List ByteArray → List ByteArray → Bool → Option (Bool)
  | 0, _, _, _, _ => none
  | k + 1, x2, x7, x9, x52 => if x52 = true then ((stevedorelaw04_awake.f k).bind fun t291 => (some t291)) else (if (mn (mx x2 1) (wrap64 ((x7.length : Int) - 1))) < 1 then (stevedorelaw04_FramesTorn.j1 k x7 x9 (mn (mx x2 1) (wrap64 ((x7.length : Int) - 1))) true) else (stevedorelaw04_FramesTorn.j1 k x7 x9 (mn (mx x2 1) (wrap64 ((x7.length : Int) - 1))) (decide ((mn (mx x2 1) (wrap64 ((x7.length : Int) - 1))) ≥ (x9.length : Int)))))
def stevedorelaw04_FramesTorn.j1 : Nat → List ByteArray → List ByteArray → Int → Bool → Option (Bool)
  | 0, _, _, _, _ => none
  | k + 1, x7, x9, x11, x67 => if x67 = true then ((stevedorelaw04_awake.f k).bind fun t292 => (some t292)) else ((some (([] : List ByteArray) : List ByteArray)).bind fun y293 => (if 0 ≤ x11 then (if x11 ≤ (x7.length : Int) then ((some (x7.take (x11 : Int).toNat : List ByteArray)).bind fun y296 => (if y293.length + y296.length < 8796093022208 then ((some (y293 ++ y296 : List ByteArray)).bind fun y300 => (if x11 ≤ (x9.length : Int) then ((some (x9.drop (x11 : Int).toNat : List ByteArray)).bind fun y303 => (if y300.length + y303.length < 8796093022208 then ((frames_Join.f k (y300 ++ y303)).bind fun bt310 => (if bt310.2.2.2 = 43 then ((stevedorelaw04_awake.f k).bind fun t314 => (some t314)) else (some false))) else (none))) else (none))) else (none))) else (none)) else (none)))
end
def stevedorelaw04_FramesTorn.f (k : Nat) (a0_0 : Int) (a0_1 : ByteArray) (a1_0 : Int) (a1_1 : ByteArray) (a2 : Int) : Option (Bool) := (frames_Lay.f k a0_0 a0_1).bind fun bt283 => ((frames_Lay.f k a1_0 a1_1).bind fun bt287 => (if bt283.2 = 0 then (if bt287.2 = 0 then (if a0_0 = a1_0 then (stevedorelaw04_FramesTorn.j0 k a2 bt283.1 bt287.1 ((bt283.1.length : Int) == (bt287.1.length : Int))) else (stevedorelaw04_FramesTorn.j0 k a2 bt283.1 bt287.1 false)) else (stevedorelaw04_FramesTorn.j0 k a2 bt283.1 bt287.1 true)) else (stevedorelaw04_FramesTorn.j0 k a2 bt283.1 bt287.1 true)))
theorem stevedorelaw04_FramesTorn.mono_l : ∀ k, (∀ y0 y1 y2 y3, LeO (stevedorelaw04_FramesTorn.j0 k y0 y1 y2 y3) (stevedorelaw04_FramesTorn.j0 (k + 1) y0 y1 y2 y3)) ∧ (∀ y0 y1 y2 y3, LeO (stevedorelaw04_FramesTorn.j1 k y0 y1 y2 y3) (stevedorelaw04_FramesTorn.j1 (k + 1) y0 y1 y2 y3))
  | 0 => ⟨fun _ _ _ _ r h => by simp [stevedorelaw04_FramesTorn.j0] at h, fun _ _ _ _ r h => by simp [stevedorelaw04_FramesTorn.j1] at h⟩
  | k + 1 => by
    obtain ⟨ih0, ih1⟩ := stevedorelaw04_FramesTorn.mono_l k
    refine ⟨?_, ?_⟩
    · intro y0 y1 y2 y3
      unfold stevedorelaw04_FramesTorn.j0
      repeat' first
      | (with_reducible exact ih0 _ _ _ _)
      | (with_reducible exact ih1 _ _ _ _)
      | (with_reducible exact frames_Join.mono _ _)
      | (with_reducible exact frames_Lay.mono _ _ _)
      | (with_reducible exact stevedorelaw04_awake.mono _)
      | (with_reducible exact LeO.refl _)
      | (with_reducible exact LeO.none _)
      | (with_reducible refine LeO.ite ?_ ?_)
      | (with_reducible refine LeO.bind ?_ (fun _ => ?_))
      | exact ih0 _ _ _ _
      | exact ih1 _ _ _ _
      | exact frames_Join.mono _ _
      | exact frames_Lay.mono _ _ _
      | exact stevedorelaw04_awake.mono _
      | exact LeO.none _
      | refine LeO.ite ?_ ?_
      | refine LeO.bind ?_ (fun _ => ?_)
    · intro y0 y1 y2 y3
      unfold stevedorelaw04_FramesTorn.j1
      repeat' first
      | (with_reducible exact ih0 _ _ _ _)
      | (with_reducible exact ih1 _ _ _ _)
      | (with_reducible exact frames_Join.mono _ _)
      | (with_reducible exact frames_Lay.mono _ _ _)
      | (with_reducible exact stevedorelaw04_awake.mono _)
      | (with_reducible exact LeO.refl _)
      | (with_reducible exact LeO.none _)
      | (with_reducible refine LeO.ite ?_ ?_)
      | (with_reducible refine LeO.bind ?_ (fun _ => ?_))
      | exact ih0 _ _ _ _
      | exact ih1 _ _ _ _
      | exact frames_Join.mono _ _
      | exact frames_Lay.mono _ _ _
      | exact stevedorelaw04_awake.mono _
      | exact LeO.none _
      | refine LeO.ite ?_ ?_
      | refine LeO.bind ?_ (fun _ => ?_)
theorem stevedorelaw04_FramesTorn.mono : ∀ a0 a1 a2 a3 a4 k, LeO (stevedorelaw04_FramesTorn.f k a0 a1 a2 a3 a4) (stevedorelaw04_FramesTorn.f (k + 1) a0 a1 a2 a3 a4) := by
  intro a0 a1 a2 a3 a4 k
  obtain ⟨ih0, ih1⟩ := stevedorelaw04_FramesTorn.mono_l k
  unfold stevedorelaw04_FramesTorn.f
  repeat' first
      | (with_reducible exact ih0 _ _ _ _)
      | (with_reducible exact ih1 _ _ _ _)
      | (with_reducible exact frames_Join.mono _ _)
      | (with_reducible exact frames_Lay.mono _ _ _)
      | (with_reducible exact stevedorelaw04_awake.mono _)
      | (with_reducible exact LeO.refl _)
      | (with_reducible exact LeO.none _)
      | (with_reducible refine LeO.ite ?_ ?_)
      | (with_reducible refine LeO.bind ?_ (fun _ => ?_))
      | exact ih0 _ _ _ _
      | exact ih1 _ _ _ _
      | exact frames_Join.mono _ _
      | exact frames_Lay.mono _ _ _
      | exact stevedorelaw04_awake.mono _
      | exact LeO.none _
      | refine LeO.ite ?_ ?_
      | refine LeO.bind ?_ (fun _ => ?_)
def stevedorelaw04_FramesTorn.T8 : Bool × List (List Nat × List Nat) := (true, [([], []), ([], []), ([], []), ([1, 2], [1, 2]), ([0, 3], [0, 3]), ([], []), ([], []), ([5, 6], [5, 6]), ([4, 7, 4], [4, 7]), ([8, 8, 0, 1, 2, 3, 4, 5, 6, 7, 8], [8])])
def stevedorelaw04_FramesTorn.B8 : List Nat := [0, 0, 0, 6, 15, 0, 0, 96, 255, 511]
theorem stevedorelaw04_FramesTorn.tab8 : rtab .any (opsOf Try.f7 8) = stevedorelaw04_FramesTorn.T8 := by kernel_rfl
theorem stevedorelaw04_FramesTorn.bits8 : waitsOk stevedorelaw04_FramesTorn.T8.2 stevedorelaw04_FramesTorn.B8 = true := by kernel_rfl
set_option maxHeartbeats 8000000 in
set_option maxRecDepth 100000 in
theorem stevedorelaw04_FramesTorn.calls (k : Nat) (a0_0 : Int) (a0_1 : ByteArray) (a1_0 : Int) (a1_1 : ByteArray) (a2 : Int) (r : Bool) (w : World) (h : stevedorelaw04_FramesTorn.f k a0_0 a0_1 a1_0 a1_1 a2 = some r) :
    Calls Try.prog 7 #[.agg #[.int .i64 a0_0, .string a0_1], .agg #[.int .i64 a1_0, .string a1_1], .int .i64 a2] w fun e w' => e = .returned (.bool r) ∧ Below w.heap.size w w' := by
  have hu42 := Try.underlying42
  have HB := Aside0.mk (Below.refl w.heap.size w)
  have H : ((frames_Lay.f k a0_0 a0_1).bind fun bt283 => ((frames_Lay.f k a1_0 a1_1).bind fun bt287 => (if bt283.2 = 0 then (if bt287.2 = 0 then (if a0_0 = a1_0 then (stevedorelaw04_FramesTorn.j0 k a2 bt283.1 bt287.1 ((bt283.1.length : Int) == (bt287.1.length : Int))) else (stevedorelaw04_FramesTorn.j0 k a2 bt283.1 bt287.1 false)) else (stevedorelaw04_FramesTorn.j0 k a2 bt283.1 bt287.1 true)) else (stevedorelaw04_FramesTorn.j0 k a2 bt283.1 bt287.1 true)))) = some r := h
  clear h
  replace H := Option.bind_eq_some_iff.mp H
  obtain ⟨⟨t283, t284⟩, A40, H⟩ := H
  replace H : ((frames_Lay.f k a1_0 a1_1).bind fun bt287 => (if t284 = 0 then (if bt287.2 = 0 then (if a0_0 = a1_0 then (stevedorelaw04_FramesTorn.j0 k a2 t283 bt287.1 ((t283.length : Int) == (bt287.1.length : Int))) else (stevedorelaw04_FramesTorn.j0 k a2 t283 bt287.1 false)) else (stevedorelaw04_FramesTorn.j0 k a2 t283 bt287.1 true)) else (stevedorelaw04_FramesTorn.j0 k a2 t283 bt287.1 true))) = some r := H
  have A4 := Aside0.mk A40
  clear A40
  replace H := Option.bind_eq_some_iff.mp H
  obtain ⟨⟨t287, t288⟩, A50, H⟩ := H
  replace H : (if t284 = 0 then (if t288 = 0 then (if a0_0 = a1_0 then (stevedorelaw04_FramesTorn.j0 k a2 t283 t287 ((t283.length : Int) == (t287.length : Int))) else (stevedorelaw04_FramesTorn.j0 k a2 t283 t287 false)) else (stevedorelaw04_FramesTorn.j0 k a2 t283 t287 true)) else (stevedorelaw04_FramesTorn.j0 k a2 t283 t287 true)) = some r := H
  have A5 := Aside0.mk A50
  clear A50
  have HC6 := Aside0.mk H
  clear H
  go_enter Try.func7, Try.ntmps7
  go_upto_region 3 with (first | ((with_reducible refine gate_dst (N := 3) rfl ?_); (try (refine gate_guard (by rfl) ?_; dsimp only)); refine box_event ?hg (N := 3) ?hd (cs := #[.int .i64 a0_0, .string a0_1]) (t := 42) ?hr ?_; (case hd => rfl); (case hg => rfl); (case hr => first | (go_simp; done) | (go_simp; rfl)); intro gb281 hg w7 hbox hb; have n0_ := Aside0.mk (below_step (by repeat (first | (with_reducible first | exact HB.out | apply below_alloc | apply pw_below_drewN | apply below_drew1) | exact HB.out)) hb); have n1_ := Aside0.mk (hbox); have n2_ := Aside0.mk ((by rw [hg]; exact (below_size (by repeat (first | (with_reducible first | exact HB.out | apply below_alloc | apply pw_below_drewN | apply below_drew1) | exact HB.out))) : w.heap.size ≤ gb281)); have n3_ := Aside0.mk ((by rw [hg]; exact (below_size (by repeat (first | (with_reducible first | exact HB.out | apply below_alloc | apply pw_below_drewN | apply below_drew1) | exact HB.out))) : w.heap.size ≤ gb281)); clear HB; have HB := n0_; have BK281 := n1_; have GW281 := n2_; have GE281 := n3_; clear n0_ n1_ n2_ n3_; clear hb hbox hg) | ((with_reducible refine gate_dst (N := 4) rfl ?_); (try (refine gate_guard (by rfl) ?_; dsimp only)); refine box_event ?hg (N := 4) ?hd (cs := #[.int .i64 a1_0, .string a1_1]) (t := 42) ?hr ?_; (case hd => rfl); (case hg => rfl); (case hr => first | (go_simp; done) | (go_simp; rfl)); intro gb282 hg w8 hbox hb; have n0_ := Aside0.mk (blk_below (g := gb281) (o := .cells #[.int .i64 a0_0, .string a0_1] 42 (0, 0)) (by (with_reducible repeat (first | refine blk_drewN ?_ _ | refine blk_drew ?_ | refine blk_alloc ?_ _)); exact BK281.out) hb); have n1_ := Aside0.mk (below_step (by repeat (first | (with_reducible first | exact HB.out | apply below_alloc | apply pw_below_drewN | apply below_drew1 | refine below_set ?_ GE281.out) | exact HB.out)) hb); have n2_ := Aside0.mk (hbox); have n3_ := Aside0.mk ((by rw [hg]; exact (below_size (by repeat (first | (with_reducible first | exact HB.out | apply below_alloc | apply pw_below_drewN | apply below_drew1 | refine below_set ?_ GE281.out) | exact HB.out))) : w.heap.size ≤ gb282)); have n4_ := Aside0.mk ((by rw [hg]; exact (below_size (by repeat (first | (with_reducible first | exact HB.out | apply below_alloc | apply pw_below_drewN | apply below_drew1 | refine below_set ?_ GE281.out) | exact HB.out))) : w.heap.size ≤ gb282)); have n5_ := Aside0.mk ((by rw [hg]; exact Nat.ne_of_lt (blk_lt (g := gb281) (o := .cells #[.int .i64 a0_0, .string a0_1] 42 (0, 0)) (by (with_reducible repeat (first | refine blk_drewN ?_ _ | refine blk_drew ?_ | refine blk_alloc ?_ _)); exact BK281.out)) : gb281 ≠ gb282)); have n6_ := Aside0.mk ((by rw [hg]; exact Nat.ne_of_gt (blk_lt (g := gb281) (o := .cells #[.int .i64 a0_0, .string a0_1] 42 (0, 0)) (by (with_reducible repeat (first | refine blk_drewN ?_ _ | refine blk_drew ?_ | refine blk_alloc ?_ _)); exact BK281.out)) : gb282 ≠ gb281)); clear BK281; clear HB; have BK281 := n0_; have HB := n1_; have BK282 := n2_; have GW282 := n3_; have GE282 := n4_; have NB281_282 := n5_; have NB282_281 := n6_; clear n0_ n1_ n2_ n3_ n4_ n5_ n6_; clear hb hbox hg; have hnb9 := NB281_282.out; have hnc9 := NB282_281.out; have hcz10_0 : w8.cell? ⟨gb281, 0, none⟩ = some (.int .i64 a0_0) := (blk_cell BK281.out 0).trans rfl; have hcz10_1 : w8.cell? ⟨gb281, 1, none⟩ = some (.string a0_1) := (blk_cell BK281.out 1).trans rfl; have hfz10_0 := blk_frozen BK281.out 0; have hfz10_1 := blk_frozen BK281.out 1) | ((with_reducible refine gate_callee (f := 13) rfl ?_); refine goesL_ (some 22) rfl rfl Try.func13 (by kernel_rfl) rfl #[.int .i64 a0_0, .string a0_1] rfl (by (try simp only [List.map_toArray, List.map_cons, List.map_nil]); first | done | rfl | (simp only [List.length_drop, List.length_take]; rfl)) ?_; (with_reducible refine (frames_Lay.calls k a0_0 a0_1 t283 t284 _ A4.out).mono ?_); rintro e w11 ⟨v285, rfl, ho0, hb⟩; refine ⟨_, rfl, ?_⟩; have n0_ := Aside0.mk (Kd.R_lower ho0 (below_size (by repeat (first | (with_reducible first | exact HB.out | apply below_alloc | apply pw_below_drewN | apply below_drew1 | refine below_set ?_ GE281.out | refine below_set ?_ GE282.out) | exact HB.out)))); have n1_ := Aside0.mk (blk_below (g := gb281) (o := .cells #[.int .i64 a0_0, .string a0_1] 42 (0, 0)) (by (with_reducible repeat (first | refine blk_drewN ?_ _ | refine blk_drew ?_ | refine blk_alloc ?_ _)); exact BK281.out) hb); have n2_ := Aside0.mk (blk_below (g := gb282) (o := .cells #[.int .i64 a1_0, .string a1_1] 42 (0, 0)) (by (with_reducible repeat (first | refine blk_drewN ?_ _ | refine blk_drew ?_ | refine blk_alloc ?_ _)); exact BK282.out) hb); have n3_ := Aside0.mk (below_step (by repeat (first | (with_reducible first | exact HB.out | apply below_alloc | apply pw_below_drewN | apply below_drew1 | refine below_set ?_ GE281.out | refine below_set ?_ GE282.out) | exact HB.out)) hb); clear BK281; clear BK282; clear HB; have HO286 := n0_; have BK281 := n1_; have BK282 := n2_; have HB := n3_; clear n0_ n1_ n2_ n3_; (try clear hb); (try clear hb2); (try clear hk); (try clear hi); (try clear ho0); have hcz12_0 : w11.cell? ⟨gb282, 0, none⟩ = some (.int .i64 a1_0) := (blk_cell BK282.out 0).trans rfl; have hcz12_1 : w11.cell? ⟨gb282, 1, none⟩ = some (.string a1_1) := (blk_cell BK282.out 1).trans rfl; have hfz12_0 := blk_frozen BK282.out 0; have hfz12_1 := blk_frozen BK282.out 1) | ((with_reducible refine gate_callee (f := 13) rfl ?_); refine goesL_ (some 30) rfl rfl Try.func13 (by kernel_rfl) rfl #[.int .i64 a1_0, .string a1_1] rfl (by (try simp only [List.map_toArray, List.map_cons, List.map_nil]); first | done | rfl | (simp only [List.length_drop, List.length_take]; rfl)) ?_; (with_reducible refine (frames_Lay.calls k a1_0 a1_1 t287 t288 _ A5.out).mono ?_); rintro e w13 ⟨v289, rfl, ho0, hb⟩; refine ⟨_, rfl, ?_⟩; have n0_ := Aside0.mk (Kd.R_elder' (by (with_reducible repeat (first | apply Kd.R_alloc | apply Kd.R_drewN | apply Kd.R_drew)); exact HO286.out) (Kd.R_base ho0) hb); have n1_ := Aside0.mk (Kd.R_lower (Kd.R_new' ho0 (Kd.R_lt (by (with_reducible repeat (first | apply Kd.R_alloc | apply Kd.R_drewN | apply Kd.R_drew)); exact HO286.out))) (below_size (by repeat (first | (with_reducible first | exact HB.out | apply below_alloc | apply pw_below_drewN | apply below_drew1 | refine below_set ?_ GE281.out | refine below_set ?_ GE282.out) | exact HB.out)))); have n2_ := Aside0.mk (blk_below (g := gb281) (o := .cells #[.int .i64 a0_0, .string a0_1] 42 (0, 0)) (by (with_reducible repeat (first | refine blk_drewN ?_ _ | refine blk_drew ?_ | refine blk_alloc ?_ _)); exact BK281.out) hb); have n3_ := Aside0.mk (blk_below (g := gb282) (o := .cells #[.int .i64 a1_0, .string a1_1] 42 (0, 0)) (by (with_reducible repeat (first | refine blk_drewN ?_ _ | refine blk_drew ?_ | refine blk_alloc ?_ _)); exact BK282.out) hb); have n4_ := Aside0.mk (below_step (by repeat (first | (with_reducible first | exact HB.out | apply below_alloc | apply pw_below_drewN | apply below_drew1 | refine below_set ?_ GE281.out | refine below_set ?_ GE282.out) | exact HB.out)) hb); clear HO286; clear BK281; clear BK282; clear HB; have HO286 := n0_; have HO290 := n1_; have BK281 := n2_; have BK282 := n3_; have HB := n4_; clear n0_ n1_ n2_ n3_ n4_; (try clear hb); (try clear hb2); (try clear hk); (try clear hi); (try clear ho0)))
  (try simp only [Act.put, List.setIfInBounds_toArray, List.set_cons_zero, List.set_cons_succ])
  go_cut [52] (fun v52 wc => ∃ (kq : Nat) (x52_5 : Bool), v52 = .bool x52_5 ∧ Aside0 (stevedorelaw04_FramesTorn.j0 kq a2 t283 t287 x52_5 = some r) ∧ Aside0 (kq ≤ k) ∧ Aside0 (Kd.R Kd.string 9 wc w.heap.size (fun k_ => some k_ ≠ (v289 : Value).ownBlock) v285 t283) ∧ Aside0 (Kd.R Kd.string 9 wc w.heap.size (fun k_ => some k_ ≠ (v285 : Value).ownBlock) v289 t287) ∧ Aside0 (wc.heap[gb281]? = some (.cells #[.int .i64 a0_0, .string a0_1] 42 (0, 0))) ∧ Aside0 (wc.heap[gb282]? = some (.cells #[.int .i64 a1_0, .string a1_1] 42 (0, 0))) ∧ Aside0 (Below w.heap.size w wc))
  case first =>
    have H := HC6.out
    clear HC6
    by_cases c14 : t284 = 0
    · rw [if_pos c14] at H
      have c14b0 : (t284 == 0) = true := beq_iff_eq.mpr c14
      have c14b1 : (t284 != 0) = false := bne_eq_false_iff_eq.mpr c14
      clear c14
      (first | rw [c14b0] | (simp only [i64_w, i32_w]; rw [c14b0]) | skip)
      by_cases c15 : t288 = 0
      · rw [if_pos c15] at H
        have c15b0 : (t288 == 0) = true := beq_iff_eq.mpr c15
        have c15b1 : (t288 != 0) = false := bne_eq_false_iff_eq.mpr c15
        clear c15
        by_cases c16 : a0_0 = a1_0
        · rw [if_pos c16] at H
          have c16b0 : (a0_0 == a1_0) = true := beq_iff_eq.mpr c16
          have c16b1 : (a0_0 != a1_0) = false := bne_eq_false_iff_eq.mpr c16
          clear c16
          have H' := Aside0.mk H
          clear H
          have hnb17 := NB281_282.out
          have hnc17 := NB282_281.out
          have hcz18_0 : w13.cell? ⟨gb281, 0, none⟩ = some (.int .i64 a0_0) := (blk_cell BK281.out 0).trans rfl
          have hcz18_1 : w13.cell? ⟨gb281, 1, none⟩ = some (.string a0_1) := (blk_cell BK281.out 1).trans rfl
          have hfz18_0 := blk_frozen BK281.out 0
          have hfz18_1 := blk_frozen BK281.out 1
          have hcz19_0 : w13.cell? ⟨gb282, 0, none⟩ = some (.int .i64 a1_0) := (blk_cell BK282.out 0).trans rfl
          have hcz19_1 : w13.cell? ⟨gb282, 1, none⟩ = some (.string a1_1) := (blk_cell BK282.out 1).trans rfl
          have hfz19_0 := blk_frozen BK282.out 0
          have hfz19_1 := blk_frozen BK282.out 1
          obtain ⟨Ao20, co20, eo20⟩ := Kd.R_slice HO286.out
          subst eo20
          obtain ⟨Ao21, co21, eo21⟩ := Kd.R_slice HO290.out
          subst eo21
          go_wp2
          go_meet
          case rel => exact ⟨_, (((t283.length : Int) == (t287.length : Int))), (by first | rfl | (simp; done) | (simp [*]; done)), H', ⟨by first | omega | exact Nat.le_refl _⟩, ⟨by (with_reducible repeat (first | apply Kd.R_alloc | apply Kd.R_drewN | apply Kd.R_drew)); exact Kd.R_mono HO286.out (fun _ hk => hk.2)⟩, ⟨by (with_reducible repeat (first | apply Kd.R_alloc | apply Kd.R_drewN | apply Kd.R_drew)); exact Kd.R_mono HO290.out (fun _ hk => hk.2)⟩, ⟨by (with_reducible repeat (first | refine blk_drewN ?_ _ | refine blk_drew ?_ | refine blk_alloc ?_ _)); exact BK281.out⟩, ⟨by (with_reducible repeat (first | refine blk_drewN ?_ _ | refine blk_drew ?_ | refine blk_alloc ?_ _)); exact BK282.out⟩, ⟨by repeat (first | (with_reducible first | exact HB.out | apply below_alloc | apply pw_below_drewN | apply below_drew1 | refine below_set ?_ GE281.out | refine below_set ?_ GE282.out) | exact HB.out)⟩⟩
        · rw [if_neg c16] at H
          have c16b0 : (a0_0 == a1_0) = false := beq_eq_false_iff_ne.mpr c16
          have c16b1 : (a0_0 != a1_0) = true := bne_iff_ne.mpr c16
          have H' := Aside0.mk H
          clear H
          have hnb22 := NB281_282.out
          have hnc22 := NB282_281.out
          have hcz23_0 : w13.cell? ⟨gb281, 0, none⟩ = some (.int .i64 a0_0) := (blk_cell BK281.out 0).trans rfl
          have hcz23_1 : w13.cell? ⟨gb281, 1, none⟩ = some (.string a0_1) := (blk_cell BK281.out 1).trans rfl
          have hfz23_0 := blk_frozen BK281.out 0
          have hfz23_1 := blk_frozen BK281.out 1
          have hcz24_0 : w13.cell? ⟨gb282, 0, none⟩ = some (.int .i64 a1_0) := (blk_cell BK282.out 0).trans rfl
          have hcz24_1 : w13.cell? ⟨gb282, 1, none⟩ = some (.string a1_1) := (blk_cell BK282.out 1).trans rfl
          have hfz24_0 := blk_frozen BK282.out 0
          have hfz24_1 := blk_frozen BK282.out 1
          go_wp2
          go_meet
          case rel => exact ⟨_, (false), (by first | rfl | (simp; done) | (simp [*]; done)), H', ⟨by first | omega | exact Nat.le_refl _⟩, ⟨by (with_reducible repeat (first | apply Kd.R_alloc | apply Kd.R_drewN | apply Kd.R_drew)); exact Kd.R_mono HO286.out (fun _ hk => hk.2)⟩, ⟨by (with_reducible repeat (first | apply Kd.R_alloc | apply Kd.R_drewN | apply Kd.R_drew)); exact Kd.R_mono HO290.out (fun _ hk => hk.2)⟩, ⟨by (with_reducible repeat (first | refine blk_drewN ?_ _ | refine blk_drew ?_ | refine blk_alloc ?_ _)); exact BK281.out⟩, ⟨by (with_reducible repeat (first | refine blk_drewN ?_ _ | refine blk_drew ?_ | refine blk_alloc ?_ _)); exact BK282.out⟩, ⟨by repeat (first | (with_reducible first | exact HB.out | apply below_alloc | apply pw_below_drewN | apply below_drew1 | refine below_set ?_ GE281.out | refine below_set ?_ GE282.out) | exact HB.out)⟩⟩
      · rw [if_neg c15] at H
        have c15b0 : (t288 == 0) = false := beq_eq_false_iff_ne.mpr c15
        have c15b1 : (t288 != 0) = true := bne_iff_ne.mpr c15
        have H' := Aside0.mk H
        clear H
        go_wp2
        go_meet
        case rel => exact ⟨_, (true), (by first | rfl | (simp; done) | (simp [*]; done)), H', ⟨by first | omega | exact Nat.le_refl _⟩, ⟨by (with_reducible repeat (first | apply Kd.R_alloc | apply Kd.R_drewN | apply Kd.R_drew)); exact Kd.R_mono HO286.out (fun _ hk => hk.2)⟩, ⟨by (with_reducible repeat (first | apply Kd.R_alloc | apply Kd.R_drewN | apply Kd.R_drew)); exact Kd.R_mono HO290.out (fun _ hk => hk.2)⟩, ⟨by (with_reducible repeat (first | refine blk_drewN ?_ _ | refine blk_drew ?_ | refine blk_alloc ?_ _)); exact BK281.out⟩, ⟨by (with_reducible repeat (first | refine blk_drewN ?_ _ | refine blk_drew ?_ | refine blk_alloc ?_ _)); exact BK282.out⟩, ⟨by repeat (first | (with_reducible first | exact HB.out | apply below_alloc | apply pw_below_drewN | apply below_drew1 | refine below_set ?_ GE281.out | refine below_set ?_ GE282.out) | exact HB.out)⟩⟩
    · rw [if_neg c14] at H
      have c14b0 : (t284 == 0) = false := beq_eq_false_iff_ne.mpr c14
      have c14b1 : (t284 != 0) = true := bne_iff_ne.mpr c14
      (first | rw [c14b0] | (simp only [i64_w, i32_w]; rw [c14b0]) | skip)
      have H' := Aside0.mk H
      clear H
      go_wp2
      go_meet
      case rel => exact ⟨_, (true), (by first | rfl | (simp; done) | (simp [*]; done)), H', ⟨by first | omega | exact Nat.le_refl _⟩, ⟨by (with_reducible repeat (first | apply Kd.R_alloc | apply Kd.R_drewN | apply Kd.R_drew)); exact Kd.R_mono HO286.out (fun _ hk => hk.2)⟩, ⟨by (with_reducible repeat (first | apply Kd.R_alloc | apply Kd.R_drewN | apply Kd.R_drew)); exact Kd.R_mono HO290.out (fun _ hk => hk.2)⟩, ⟨by (with_reducible repeat (first | refine blk_drewN ?_ _ | refine blk_drew ?_ | refine blk_alloc ?_ _)); exact BK281.out⟩, ⟨by (with_reducible repeat (first | refine blk_drewN ?_ _ | refine blk_drew ?_ | refine blk_alloc ?_ _)); exact BK282.out⟩, ⟨by repeat (first | (with_reducible first | exact HB.out | apply below_alloc | apply pw_below_drewN | apply below_drew1 | refine below_set ?_ GE281.out | refine below_set ?_ GE282.out) | exact HB.out)⟩⟩
  case rest =>
    clear HC6
    try clear c1
    try clear c2
    try clear p2
    try clear c7
    try clear c9
    try clear c13
    try clear c14
    try clear c14b0
    try clear c14b1
    try clear c15
    try clear c15b0
    try clear c15b1
    try clear c16
    try clear c16b0
    try clear c16b1
    try clear c17
    try clear c22
    try clear hcz10_0
    try clear hcz10_1
    try clear hcz12_0
    try clear hcz12_1
    try clear hcz18_0
    try clear hcz18_1
    try clear hcz19_0
    try clear hcz19_1
    try clear hcz23_0
    try clear hcz23_1
    try clear hcz24_0
    try clear hcz24_1
    try clear hfz10_0
    try clear hfz10_1
    try clear hfz12_0
    try clear hfz12_1
    try clear hfz18_0
    try clear hfz18_1
    try clear hfz19_0
    try clear hfz19_1
    try clear hfz23_0
    try clear hfz23_1
    try clear hfz24_0
    try clear hfz24_1
    obtain ⟨kq, x52_5, rfl, HA, HJ5, HO_7, HO_9, BK281, BK282, HB⟩ := hcut
    cases kq with
    | zero => exact absurd HA.out (by simp [stevedorelaw04_FramesTorn.j0])
    | succ kj5 =>
      have H := HA.out
      clear HA
      simp only [stevedorelaw04_FramesTorn.j0] at H
      by_cases c25 : x52_5 = true
      · subst c25
        have H1 : ((stevedorelaw04_awake.f kj5).bind fun t291 => (some t291)) = some r := by rw [if_pos rfl] at H; exact H
        clear H
        have H := H1
        clear H1
        replace H := Option.bind_eq_some_iff.mp H
        obtain ⟨t291, A260, H⟩ := H
        replace H : (some t291) = some r := H
        have A26 := Aside0.mk A260
        clear A260
        obtain rfl := Option.some.inj H
        go_wp2_with (first | ((with_reducible refine gate_callee (f := 18) rfl ?_); refine goesL_ (some 53) rfl rfl Try.func18 (by kernel_rfl) rfl #[] rfl (by (try simp only [List.map_toArray, List.map_cons, List.map_nil]); first | done | rfl | (simp only [List.length_drop, List.length_take]; rfl)) ?_; (with_reducible refine (stevedorelaw04_awake.calls kj5  t291 _ A26.out).mono ?_); rintro e w27 ⟨rfl, hb⟩; refine ⟨_, rfl, ?_⟩; have n0_ := Aside0.mk (Kd.R_below (by (with_reducible repeat (first | apply Kd.R_alloc | apply Kd.R_drewN | apply Kd.R_drew)); exact HO_7.out) hb); have n1_ := Aside0.mk (Kd.R_below (by (with_reducible repeat (first | apply Kd.R_alloc | apply Kd.R_drewN | apply Kd.R_drew)); exact HO_9.out) hb); have n2_ := Aside0.mk (blk_below (g := gb281) (o := .cells #[.int .i64 a0_0, .string a0_1] 42 (0, 0)) (by (with_reducible repeat (first | refine blk_drewN ?_ _ | refine blk_drew ?_ | refine blk_alloc ?_ _)); exact BK281.out) hb); have n3_ := Aside0.mk (blk_below (g := gb282) (o := .cells #[.int .i64 a1_0, .string a1_1] 42 (0, 0)) (by (with_reducible repeat (first | refine blk_drewN ?_ _ | refine blk_drew ?_ | refine blk_alloc ?_ _)); exact BK282.out) hb); have n4_ := Aside0.mk (below_step (by repeat (first | (with_reducible first | exact HB.out | apply below_alloc | apply pw_below_drewN | apply below_drew1 | refine below_set ?_ GE281.out | refine below_set ?_ GE282.out) | exact HB.out)) hb); clear HO_7; clear HO_9; clear BK281; clear BK282; clear HB; have HO_7 := n0_; have HO_9 := n1_; have BK281 := n2_; have BK282 := n3_; have HB := n4_; clear n0_ n1_ n2_ n3_ n4_; (try clear hb); (try clear hb2); (try clear hk); (try clear hi)))
        go_ret
        exact ⟨by first | rfl | (simp [errW_none, errW_some] <;> rfl) | (simp [*, errW_none, errW_some] <;> rfl), by repeat (first | (with_reducible first | exact HB.out | apply below_alloc | apply pw_below_drewN | apply below_drew1 | refine below_set ?_ GE281.out | refine below_set ?_ GE282.out) | exact HB.out)⟩
      · replace c25 := Bool.eq_false_iff.mpr c25
        subst c25
        have H1 : (if (mn (mx a2 1) (wrap64 ((t283.length : Int) - 1))) < 1 then (stevedorelaw04_FramesTorn.j1 kj5 t283 t287 (mn (mx a2 1) (wrap64 ((t283.length : Int) - 1))) true) else (stevedorelaw04_FramesTorn.j1 kj5 t283 t287 (mn (mx a2 1) (wrap64 ((t283.length : Int) - 1))) (decide ((mn (mx a2 1) (wrap64 ((t283.length : Int) - 1))) ≥ (t287.length : Int))))) = some r := by rw [if_neg (show ¬ (false = true) by decide)] at H; exact H
        clear H
        have H := H1
        clear H1
        obtain ⟨ji28, hji28⟩ : ∃ j_ : Int, (mx a2 1) = j_ := ⟨_, rfl⟩
        replace H : (if (mn (ji28) (wrap64 ((t283.length : Int) - 1))) < 1 then (stevedorelaw04_FramesTorn.j1 kj5 t283 t287 (mn (ji28) (wrap64 ((t283.length : Int) - 1))) true) else (stevedorelaw04_FramesTorn.j1 kj5 t283 t287 (mn (ji28) (wrap64 ((t283.length : Int) - 1))) (decide ((mn (ji28) (wrap64 ((t283.length : Int) - 1))) ≥ (t287.length : Int))))) = some r := by first | (rw [hji28] at H; exact H) | (simp only [hji28] at H ⊢; exact H)
        have hji28_ : (if a2 < 1 then 1 else a2) = ji28 := hji28
        obtain ⟨ji29, hji29⟩ : ∃ j_ : Int, (mn (ji28) (wrap64 ((t283.length : Int) - 1))) = j_ := ⟨_, rfl⟩
        replace H : (if (ji29) < 1 then (stevedorelaw04_FramesTorn.j1 kj5 t283 t287 ji29 true) else (stevedorelaw04_FramesTorn.j1 kj5 t283 t287 ji29 (decide ((ji29) ≥ (t287.length : Int))))) = some r := by first | (rw [hji29] at H; exact H) | (simp only [hji29] at H ⊢; exact H)
        have hji29_ : (if (wrap64 ((t283.length : Int) - 1)) < (ji28) then (wrap64 ((t283.length : Int) - 1)) else (ji28)) = ji29 := hji29
        have HC30 := Aside0.mk H
        clear H
        obtain ⟨Ao31, co31, eo31⟩ := Kd.R_slice HO_7.out
        subst eo31
        go_upto_region 6 with (fail)
        go_cut [67] (fun v67 wc => ∃ (kq : Nat) (x67_29 : Bool), v67 = .bool x67_29 ∧ Aside0 (stevedorelaw04_FramesTorn.j1 kq t283 t287 ji29 x67_29 = some r) ∧ Aside0 (kq ≤ kj5) ∧ Aside0 (Kd.R Kd.string 9 wc w.heap.size (fun k_ => some k_ ≠ (v289 : Value).ownBlock) (.slice Ao31 t283.length co31) t283) ∧ Aside0 (Kd.R Kd.string 9 wc w.heap.size (fun k_ => some k_ ≠ ((.slice Ao31 t283.length co31) : Value).ownBlock) v289 t287) ∧ Aside0 (wc.heap[gb281]? = some (.cells #[.int .i64 a0_0, .string a0_1] 42 (0, 0))) ∧ Aside0 (wc.heap[gb282]? = some (.cells #[.int .i64 a1_0, .string a1_1] 42 (0, 0))) ∧ Aside0 (Below w.heap.size w wc))
        case first =>
          have H := HC30.out
          clear HC30
          by_cases c32 : (ji29) < 1
          · rw [if_pos c32] at H
            have c32b0 : decide ((ji29) < 1) = true := decide_eq_true c32
            clear c32
            (first | rw [c32b0] | (simp only [i64_w, i32_w]; rw [c32b0]) | skip)
            have H' := Aside0.mk H
            clear H
            go_wp2
            go_meet
            case rel => exact ⟨_, (true), (by first | rfl | (simp; done) | (simp [*]; done)), H', ⟨by have := HJ5.out; first | omega | exact Nat.le_refl _⟩, ⟨by (with_reducible repeat (first | apply Kd.R_alloc | apply Kd.R_drewN | apply Kd.R_drew)); exact HO_7.out⟩, ⟨by (with_reducible repeat (first | apply Kd.R_alloc | apply Kd.R_drewN | apply Kd.R_drew)); exact HO_9.out⟩, ⟨by (with_reducible repeat (first | refine blk_drewN ?_ _ | refine blk_drew ?_ | refine blk_alloc ?_ _)); exact BK281.out⟩, ⟨by (with_reducible repeat (first | refine blk_drewN ?_ _ | refine blk_drew ?_ | refine blk_alloc ?_ _)); exact BK282.out⟩, ⟨by repeat (first | (with_reducible first | exact HB.out | apply below_alloc | apply pw_below_drewN | apply below_drew1 | refine below_set ?_ GE281.out | refine below_set ?_ GE282.out) | exact HB.out)⟩⟩
          · rw [if_neg c32] at H
            have c32b0 : decide ((ji29) < 1) = false := decide_eq_false c32
            clear c32
            (first | rw [c32b0] | (simp only [i64_w, i32_w]; rw [c32b0]) | skip)
            have H' := Aside0.mk H
            clear H
            obtain ⟨Ao33, co33, eo33⟩ := Kd.R_slice HO_9.out
            subst eo33
            go_wp2
            go_meet
            case rel => exact ⟨_, (decide ((ji29) ≥ (t287.length : Int))), (by first | rfl | (simp; done) | (simp only [← hji29] <;> (first | rfl | simp)) | (simp [*]; done)), H', ⟨by have := HJ5.out; first | omega | exact Nat.le_refl _⟩, ⟨by (with_reducible repeat (first | apply Kd.R_alloc | apply Kd.R_drewN | apply Kd.R_drew)); exact HO_7.out⟩, ⟨by (with_reducible repeat (first | apply Kd.R_alloc | apply Kd.R_drewN | apply Kd.R_drew)); exact HO_9.out⟩, ⟨by (with_reducible repeat (first | refine blk_drewN ?_ _ | refine blk_drew ?_ | refine blk_alloc ?_ _)); exact BK281.out⟩, ⟨by (with_reducible repeat (first | refine blk_drewN ?_ _ | refine blk_drew ?_ | refine blk_alloc ?_ _)); exact BK282.out⟩, ⟨by repeat (first | (with_reducible first | exact HB.out | apply below_alloc | apply pw_below_drewN | apply below_drew1 | refine below_set ?_ GE281.out | refine below_set ?_ GE282.out) | exact HB.out)⟩⟩
        case rest =>
          clear HC30
          try clear c1
          try clear c2
          try clear p2
          try clear c3
          try clear p6
          try clear c7
          try clear c9
          try clear c13
          try clear c14
          try clear c14b0
          try clear c14b1
          try clear c15
          try clear c15b0
          try clear c15b1
          try clear c16
          try clear c16b0
          try clear c16b1
          try clear c17
          try clear c18
          try clear c22
          try clear c25
          try clear c32
          try clear c32b0
          try clear hcz10_0
          try clear hcz10_1
          try clear hcz12_0
          try clear hcz12_1
          try clear hcz18_0
          try clear hcz18_1
          try clear hcz19_0
          try clear hcz19_1
          try clear hcz23_0
          try clear hcz23_1
          try clear hcz24_0
          try clear hcz24_1
          try clear hfz10_0
          try clear hfz10_1
          try clear hfz12_0
          try clear hfz12_1
          try clear hfz18_0
          try clear hfz18_1
          try clear hfz19_0
          try clear hfz19_1
          try clear hfz23_0
          try clear hfz23_1
          try clear hfz24_0
          try clear hfz24_1
          try clear p2
          obtain ⟨kq, x67_29, rfl, HA, HJ29, HO_7, HO_9, BK281, BK282, HB⟩ := hcut
          cases kq with
          | zero => exact absurd HA.out (by simp [stevedorelaw04_FramesTorn.j1])
          | succ kj29 =>
            have H := HA.out
            clear HA
            simp only [stevedorelaw04_FramesTorn.j1] at H
            by_cases c34 : x67_29 = true
            · subst c34
              have H1 : ((stevedorelaw04_awake.f kj29).bind fun t292 => (some t292)) = some r := by rw [if_pos rfl] at H; exact H
              clear H
              have H := H1
              clear H1
              replace H := Option.bind_eq_some_iff.mp H
              obtain ⟨t292, A350, H⟩ := H
              replace H : (some t292) = some r := H
              have A35 := Aside0.mk A350
              clear A350
              obtain rfl := Option.some.inj H
              go_wp2_with (first | ((with_reducible refine gate_callee (f := 18) rfl ?_); refine goesL_ (some 68) rfl rfl Try.func18 (by kernel_rfl) rfl #[] rfl (by (try simp only [List.map_toArray, List.map_cons, List.map_nil]); first | done | rfl | (simp only [List.length_drop, List.length_take]; rfl)) ?_; (with_reducible refine (stevedorelaw04_awake.calls kj29  t292 _ A35.out).mono ?_); rintro e w36 ⟨rfl, hb⟩; refine ⟨_, rfl, ?_⟩; have n0_ := Aside0.mk (Kd.R_below (by (with_reducible repeat (first | apply Kd.R_alloc | apply Kd.R_drewN | apply Kd.R_drew)); exact HO_7.out) hb); have n1_ := Aside0.mk (Kd.R_below (by (with_reducible repeat (first | apply Kd.R_alloc | apply Kd.R_drewN | apply Kd.R_drew)); exact HO_9.out) hb); have n2_ := Aside0.mk (blk_below (g := gb281) (o := .cells #[.int .i64 a0_0, .string a0_1] 42 (0, 0)) (by (with_reducible repeat (first | refine blk_drewN ?_ _ | refine blk_drew ?_ | refine blk_alloc ?_ _)); exact BK281.out) hb); have n3_ := Aside0.mk (blk_below (g := gb282) (o := .cells #[.int .i64 a1_0, .string a1_1] 42 (0, 0)) (by (with_reducible repeat (first | refine blk_drewN ?_ _ | refine blk_drew ?_ | refine blk_alloc ?_ _)); exact BK282.out) hb); have n4_ := Aside0.mk (below_step (by repeat (first | (with_reducible first | exact HB.out | apply below_alloc | apply pw_below_drewN | apply below_drew1 | refine below_set ?_ GE281.out | refine below_set ?_ GE282.out) | exact HB.out)) hb); clear HO_7; clear HO_9; clear BK281; clear BK282; clear HB; have HO_7 := n0_; have HO_9 := n1_; have BK281 := n2_; have BK282 := n3_; have HB := n4_; clear n0_ n1_ n2_ n3_ n4_; (try clear hb); (try clear hb2); (try clear hk); (try clear hi)))
              go_ret
              exact ⟨by first | rfl | (simp [errW_none, errW_some] <;> rfl) | (simp only [← hji28, ← hji29]; first | rfl | (simp [errW_none, errW_some] <;> rfl)) | (simp [*, errW_none, errW_some] <;> rfl), by repeat (first | (with_reducible first | exact HB.out | apply below_alloc | apply pw_below_drewN | apply below_drew1 | refine below_set ?_ GE281.out | refine below_set ?_ GE282.out) | exact HB.out)⟩
            · replace c34 := Bool.eq_false_iff.mpr c34
              subst c34
              have H1 : ((some (([] : List ByteArray) : List ByteArray)).bind fun y293 => (if 0 ≤ ji29 then (if ji29 ≤ (t283.length : Int) then ((some (t283.take (ji29 : Int).toNat : List ByteArray)).bind fun y296 => (if y293.length + y296.length < 8796093022208 then ((some (y293 ++ y296 : List ByteArray)).bind fun y300 => (if ji29 ≤ (t287.length : Int) then ((some (t287.drop (ji29 : Int).toNat : List ByteArray)).bind fun y303 => (if y300.length + y303.length < 8796093022208 then ((frames_Join.f kj29 (y300 ++ y303)).bind fun bt310 => (if bt310.2.2.2 = 43 then ((stevedorelaw04_awake.f kj29).bind fun t314 => (some t314)) else (some false))) else (none))) else (none))) else (none))) else (none)) else (none))) = some r := by rw [if_neg (show ¬ (false = true) by decide)] at H; exact H
              clear H
              have H := H1
              clear H1
              obtain ⟨y293, hy293⟩ : ∃ y_ : List ByteArray, y_ = (([] : List ByteArray)) := ⟨_, rfl⟩
              replace H : (if 0 ≤ ji29 then (if ji29 ≤ (t283.length : Int) then ((some (t283.take (ji29 : Int).toNat : List ByteArray)).bind fun y296 => (if y293.length + y296.length < 8796093022208 then ((some (y293 ++ y296 : List ByteArray)).bind fun y300 => (if ji29 ≤ (t287.length : Int) then ((some (t287.drop (ji29 : Int).toNat : List ByteArray)).bind fun y303 => (if y300.length + y303.length < 8796093022208 then ((frames_Join.f kj29 (y300 ++ y303)).bind fun bt310 => (if bt310.2.2.2 = 43 then ((stevedorelaw04_awake.f kj29).bind fun t314 => (some t314)) else (some false))) else (none))) else (none))) else (none))) else (none)) else (none)) = some r := by first | (rw [hy293]; with_reducible exact H) | (have H2_ := (Option.bind_some _ _).symm.trans H; rw [hy293]; with_reducible exact H2_) | (have H2_ := (Option.bind_some _ _).symm.trans H; with_reducible exact H2_) | with_reducible exact H | (rw [hy293]; exact H) | exact H
              have Ny293 := Aside0.mk hy293
              clear hy293
              by_cases c37 : 0 ≤ ji29
              · rw [if_pos c37] at H
                have c37b0 := eq_true c37
                have c37b1 : decide (0 ≤ ji29) = true := decide_eq_true c37
                clear c37
                by_cases c38 : ji29 ≤ (t283.length : Int)
                · rw [if_pos c38] at H
                  have c38b0 := eq_true c38
                  have c38b1 : decide (ji29 ≤ (t283.length : Int)) = true := decide_eq_true c38
                  clear c38
                  obtain ⟨y296, hy296⟩ : ∃ y_ : List ByteArray, y_ = (t283.take (ji29 : Int).toNat) := ⟨_, rfl⟩
                  replace H : (if y293.length + y296.length < 8796093022208 then ((some (y293 ++ y296 : List ByteArray)).bind fun y300 => (if ji29 ≤ (t287.length : Int) then ((some (t287.drop (ji29 : Int).toNat : List ByteArray)).bind fun y303 => (if y300.length + y303.length < 8796093022208 then ((frames_Join.f kj29 (y300 ++ y303)).bind fun bt310 => (if bt310.2.2.2 = 43 then ((stevedorelaw04_awake.f kj29).bind fun t314 => (some t314)) else (some false))) else (none))) else (none))) else (none)) = some r := by first | (rw [hy296]; with_reducible exact H) | (have H2_ := (Option.bind_some _ _).symm.trans H; rw [hy296]; with_reducible exact H2_) | (have H2_ := (Option.bind_some _ _).symm.trans H; with_reducible exact H2_) | with_reducible exact H | (rw [hy296]; exact H) | exact H
                  have Ny296 := Aside0.mk hy296
                  clear hy296
                  by_cases c39 : y293.length + y296.length < 8796093022208
                  · rw [if_pos c39] at H
                    have LMc39 := Aside0.mk c39
                    clear c39
                    obtain ⟨y300, hy300⟩ : ∃ y_ : List ByteArray, y_ = (y293 ++ y296) := ⟨_, rfl⟩
                    replace H : (if ji29 ≤ (t287.length : Int) then ((some (t287.drop (ji29 : Int).toNat : List ByteArray)).bind fun y303 => (if y300.length + y303.length < 8796093022208 then ((frames_Join.f kj29 (y300 ++ y303)).bind fun bt310 => (if bt310.2.2.2 = 43 then ((stevedorelaw04_awake.f kj29).bind fun t314 => (some t314)) else (some false))) else (none))) else (none)) = some r := by first | (rw [hy300]; with_reducible exact H) | (have H2_ := (Option.bind_some _ _).symm.trans H; rw [hy300]; with_reducible exact H2_) | (have H2_ := (Option.bind_some _ _).symm.trans H; with_reducible exact H2_) | with_reducible exact H | (rw [hy300]; exact H) | exact H
                    have Ny300 := Aside0.mk hy300
                    clear hy300
                    have c40b0 := eq_true (of_decide_eq_true (by first | (with_reducible assumption) | assumption) : 0 ≤ ji29)
                    by_cases c41 : ji29 ≤ (t287.length : Int)
                    · rw [if_pos c41] at H
                      have c41b0 := eq_true c41
                      have c41b1 : decide (ji29 ≤ (t287.length : Int)) = true := decide_eq_true c41
                      clear c41
                      obtain ⟨y303, hy303⟩ : ∃ y_ : List ByteArray, y_ = (t287.drop (ji29 : Int).toNat) := ⟨_, rfl⟩
                      replace H : (if y300.length + y303.length < 8796093022208 then ((frames_Join.f kj29 (y300 ++ y303)).bind fun bt310 => (if bt310.2.2.2 = 43 then ((stevedorelaw04_awake.f kj29).bind fun t314 => (some t314)) else (some false))) else (none)) = some r := by first | (rw [hy303]; with_reducible exact H) | (have H2_ := (Option.bind_some _ _).symm.trans H; rw [hy303]; with_reducible exact H2_) | (have H2_ := (Option.bind_some _ _).symm.trans H; with_reducible exact H2_) | with_reducible exact H | (rw [hy303]; exact H) | exact H
                      have Ny303 := Aside0.mk hy303
                      clear hy303
                      by_cases c42 : y300.length + y303.length < 8796093022208
                      · rw [if_pos c42] at H
                        have LMc42 := Aside0.mk c42
                        clear c42
                        obtain ⟨y307, hy307⟩ : ∃ y_ : List ByteArray, y_ = (y300 ++ y303) := ⟨_, rfl⟩
                        replace H : ((frames_Join.f kj29 y307).bind fun bt310 => (if bt310.2.2.2 = 43 then ((stevedorelaw04_awake.f kj29).bind fun t314 => (some t314)) else (some false))) = some r := by first | (rw [hy307]; with_reducible exact H) | (have H2_ := (Option.bind_some _ _).symm.trans H; rw [hy307]; with_reducible exact H2_) | (have H2_ := (Option.bind_some _ _).symm.trans H; with_reducible exact H2_) | with_reducible exact H | (rw [hy307]; exact H) | exact H
                        have Ny307 := Aside0.mk hy307
                        clear hy307
                        replace H := Option.bind_eq_some_iff.mp H
                        obtain ⟨⟨t310, t311, t312, t313⟩, A430, H⟩ := H
                        replace H : (if t313 = 43 then ((stevedorelaw04_awake.f kj29).bind fun t314 => (some t314)) else (some false)) = some r := H
                        have A43 := Aside0.mk A430
                        clear A430
                        by_cases c44 : t313 = 43
                        · rw [if_pos c44] at H
                          have c44b0 : (t313 == 43) = true := beq_iff_eq.mpr c44
                          have c44b1 : (t313 != 43) = false := bne_eq_false_iff_eq.mpr c44
                          clear c44
                          replace H := Option.bind_eq_some_iff.mp H
                          obtain ⟨t314, A450, H⟩ := H
                          replace H : (some t314) = some r := H
                          have A45 := Aside0.mk A450
                          clear A450
                          obtain rfl := Option.some.inj H
                          try go_wp2
                          have n0_ := Aside0.mk (Kd.R_drew HO_7.out)
                          have n1_ := Aside0.mk (Kd.R_drew HO_9.out)
                          have n2_ := Aside0.mk (blk_drew BK281.out)
                          have n3_ := Aside0.mk (blk_drew BK282.out)
                          have n4_ := Aside0.mk (below_drew1 HB.out)
                          clear HO_7
                          clear HO_9
                          clear BK281
                          clear BK282
                          clear HB
                          have HO_7 := n0_
                          have HO_9 := n1_
                          have BK281 := n2_
                          have BK282 := n3_
                          have HB := n4_
                          clear n0_ n1_ n2_ n3_ n4_
                          have q47 : (ji29 : Int) ≤ ((t283.length : Int) : Int) := of_decide_eq_true (by first | (with_reducible assumption) | assumption)
                          obtain ⟨i047, hi047, _, hsz47, _⟩ := info_parts info9
                          have hroom47 : t283.length ≤ co31 := (Kd.R_reads' HO_7.out).2.1
                          have hC47 : Kd.C Kd.string _ Ao31 t283.length t283 := (Kd.R_reads' HO_7.out).2.2
                          have hcut47 := cut_to (P := Try.prog) 22 9 .i64 Try.underlying22 hi047 Ao31 t283.length co31 ji29 (of_decide_eq_true (by first | (with_reducible assumption) | assumption)) q47 hroom47
                          have hr47 := Kd.C_take (m := (ji29 : Int).toNat) hC47 (by omega)
                          have hy47 : y296.length = (ji29 : Int).toNat := (by rw [Ny296.out, List.length_take]; omega)
                          rw [← Ny296.out] at hr47
                          rw [← hy47] at hcut47
                          have HR299 := Aside0.mk hr47
                          have HC299 := Aside0.mk (show y296.length ≤ co31 from by omega)
                          clear hr47 hC47 hroom47 hi047 hsz47
                          have KY47 := Aside0.mk hy47
                          clear hy47
                          have KL47 := Aside0.mk (show (ji29 : Int).toNat ≤ t283.length from by omega)
                          replace q47 := eq_true q47
                          obtain ⟨Ao49, co49, eo49⟩ := Kd.R_slice HO_9.out
                          (first | subst eo49 | (injection eo49 with f1_ f2_ f3_; have f4_ := f1_.symm; have f5_ := f3_.symm; clear f1_ f2_ f3_; subst f4_; subst f5_))
                          have q48 : (ji29 : Int) ≤ ((t287.length : Int) : Int) := of_decide_eq_true (by first | (with_reducible assumption) | assumption)
                          obtain ⟨i048, hi048, _, hsz48, _⟩ := info_parts info9
                          have hroom48 : t287.length ≤ co49 := (Kd.R_reads' HO_9.out).2.1
                          have hC48 : Kd.C Kd.string _ Ao49 t287.length t287 := (Kd.R_reads' HO_9.out).2.2
                          have q048 : (0 : Int) ≤ (ji29 : Int) := of_decide_eq_true (by first | (with_reducible assumption) | assumption)
                          have hcut48 := cut_from (P := Try.prog) 22 9 .i64 Try.underlying22 hi048 1 hsz48 Ao49 t287.length co49 ji29 q048 q48
                          have hr48 := Kd.C_drop (m := (ji29 : Int).toNat) (c := co49) hC48 (by omega) hroom48
                          obtain ⟨A48, hA48⟩ : ∃ A1, A1 = (if co49 = (ji29 : Int).toNat then Ao49 else (Ao49 : Option Addr).map (·.add ((ji29 : Int).toNat * 1))) := ⟨_, rfl⟩
                          obtain ⟨c48, hc48⟩ : ∃ c1, c1 = co49 - (ji29 : Int).toNat := ⟨_, rfl⟩
                          have hy48 : y303.length = t287.length - (ji29 : Int).toNat := (by rw [Ny303.out, List.length_drop] <;> omega)
                          rw [show (t287).drop (ji29 : Int).toNat = y303 from Ny303.out.symm] at hr48
                          replace hr48 : Kd.C Kd.string _ A48 y303.length y303 := (by rw [hA48]; exact hr48)
                          rw [← hy48, ← hA48, ← hc48] at hcut48
                          have HR306 := Aside0.mk hr48
                          have HC306 := Aside0.mk (show y303.length ≤ c48 from by rw [hy48, hc48]; exact Nat.sub_le_sub_right hroom48 _)
                          clear hr48 hC48 hroom48 hi048 hsz48 hc48
                          have KY48 := Aside0.mk hy48
                          have KA48 := Aside0.mk hA48
                          clear hy48 hA48
                          have KL48 := Aside0.mk (show (ji29 : Int).toNat ≤ t287.length from by omega)
                          replace q48 := eq_true q48
                          refine start_ (n := 10) (S := fun w' => True) (ds := []) #[false, false, false, false, false, false, false, false, false, false] (by kernel_rfl) rfl rfl trivial (fun hHeld => ?_); refine with_tabW stevedorelaw04_FramesTorn.tab8 stevedorelaw04_FramesTorn.bits8 (fun HT_ HW_ => ?_)
                          generalize wc.drew = w46 at HO_7 HO_9 BK281 BK282 HB HR299 HR306 hHeld ⊢
                          refine pure_ (i := 1) (N := some 70) (v := ?_) (a' := ?_) #[false, true, false, false, false, false, false, false, false, false] rfl rfl (any_of HT_.out (by kernel_rfl)) (fun _ _ _ h => h) (Or.inl ⟨by rfl, ?_⟩) ?_ ?_
                          rotate_left
                          · intro w'
                            go_simp
                            with_reducible rfl
                          rotate_left
                          · simp only [Act.put, List.setIfInBounds_toArray, List.set_cons_zero, List.set_cons_succ, i64_w, i32_w]
                            rfl
                          refine pure_ (i := 2) (N := some 71) (v := ?_) (a' := ?_) #[false, true, true, false, false, false, false, false, false, false] rfl rfl (any_of HT_.out (by kernel_rfl)) (fun _ _ _ h => h) (Or.inl ⟨by rfl, ?_⟩) ?_ ?_
                          rotate_left
                          · intro w'
                            go_simp
                            with_reducible rfl
                          rotate_left
                          · simp only [Act.put, List.setIfInBounds_toArray, List.set_cons_zero, List.set_cons_succ, i64_w, i32_w]
                            rfl
                          refine pure_ (i := 3) (N := some 72) (v := ?_) (a' := ?_) #[false, true, true, true, false, false, false, false, false, false] rfl rfl (any_of HT_.out (by kernel_rfl)) (fun _ _ _ h => h) (Or.inl ⟨by rfl, ?_⟩) ?_ ?_
                          rotate_left
                          · intro w'
                            go_simp
                            with_reducible rfl
                          rotate_left
                          · simp only [Act.put, List.setIfInBounds_toArray, List.set_cons_zero, List.set_cons_succ, i64_w, i32_w]
                            rfl
                          refine pure_ (i := 5) (N := some 74) (v := ?_) (a' := ?_) #[false, true, true, true, false, true, false, false, false, false] rfl rfl (any_of HT_.out (by kernel_rfl)) (fun _ _ _ h => h) (Or.inl ⟨by rfl, ?_⟩) ?_ ?_
                          rotate_left
                          · intro w'
                            go_simp
                            with_reducible rfl
                          rotate_left
                          · simp only [Act.put, List.setIfInBounds_toArray, List.set_cons_zero, List.set_cons_succ, i64_w, i32_w]
                            rfl
                          refine pure_ (i := 6) (N := some 75) (v := ?_) (a' := ?_) #[false, true, true, true, false, true, true, false, false, false] rfl rfl (any_of HT_.out (by kernel_rfl)) (fun _ _ _ h => h) (Or.inl ⟨by rfl, ?_⟩) ?_ ?_
                          rotate_left
                          · intro w'
                            go_simp
                            with_reducible rfl
                          rotate_left
                          · simp only [Act.put, List.setIfInBounds_toArray, List.set_cons_zero, List.set_cons_succ, i64_w, i32_w]
                            rfl
                          refine pure_ (i := 7) (N := some 76) (v := ?_) (a' := ?_) #[false, true, true, true, false, true, true, true, false, false] rfl rfl (any_of HT_.out (by kernel_rfl)) (fun _ _ _ h => h) (Or.inl ⟨by rfl, ?_⟩) ?_ ?_
                          rotate_left
                          · intro w'
                            go_simp
                            with_reducible rfl
                          rotate_left
                          · simp only [Act.put, List.setIfInBounds_toArray, List.set_cons_zero, List.set_cons_succ, i64_w, i32_w]
                            rfl
                          refine one_ (i := 0) (N := some 69) #[true, true, true, true, false, true, true, true, false, false] rfl rfl (one_of HT_.out (by kernel_rfl)) (by decide) (fun K hK => ?_)
                          refine Kd.R_lit_step Kd.string _ 9 ?hg (N := 69) ?hd (xs := ([] : List ByteArray)) (inner := []) (ok := fun _ => True) (okp := fun _ => True) ?hr ?hp (fun _ hk => hk) trivial (Below.refl _ _) (Nat.le_refl _) (by simp) ?_; (case hd => rfl); (case hg => rfl); (case hr => first | (go_simp; done) | (go_simp; rfl)); (case hp => exact (Reps.none _ _))
                          intro v294 w50 ho51 hb hg_ hnew_
                          clear hg_ hnew_
                          (first | rw [← Ny293.out] at ho51 | (simp only [Int.reduceToNat] at ho51; rw [← Ny293.out] at ho51))
                          have n0_ := Aside0.mk (Kd.R_elder' (by (with_reducible repeat (first | apply Kd.R_alloc | apply Kd.R_drewN | apply Kd.R_drew)); exact HO_7.out) (Kd.R_base ho51) hb)
                          have n1_ := Aside0.mk (Kd.R_elder' (by (with_reducible repeat (first | apply Kd.R_alloc | apply Kd.R_drewN | apply Kd.R_drew)); exact HO_9.out) (Kd.R_base ho51) hb)
                          have n2_ := Aside0.mk (Kd.R_lower (Kd.R_new' (Kd.R_new' ho51 (Kd.R_lt (by (with_reducible repeat (first | apply Kd.R_alloc | apply Kd.R_drewN | apply Kd.R_drew)); exact HO_7.out))) (Kd.R_lt (by (with_reducible repeat (first | apply Kd.R_alloc | apply Kd.R_drewN | apply Kd.R_drew)); exact HO_9.out))) (below_size (by repeat (first | (with_reducible first | exact HB.out | apply below_alloc | apply pw_below_drewN | apply below_drew1 | refine below_set ?_ GE281.out | refine below_set ?_ GE282.out) | exact HB.out))))
                          have n3_ := Aside0.mk (blk_below (g := gb281) (o := .cells #[.int .i64 a0_0, .string a0_1] 42 (0, 0)) (by (with_reducible repeat (first | refine blk_drewN ?_ _ | refine blk_drew ?_ | refine blk_alloc ?_ _)); exact BK281.out) hb)
                          have n4_ := Aside0.mk (blk_below (g := gb282) (o := .cells #[.int .i64 a1_0, .string a1_1] 42 (0, 0)) (by (with_reducible repeat (first | refine blk_drewN ?_ _ | refine blk_drew ?_ | refine blk_alloc ?_ _)); exact BK282.out) hb)
                          have n5_ := Aside0.mk (Kd.C_below (by repeat (first | (with_reducible exact HR299.out) | (with_reducible refine Kd.C_alloc ?_ _) | (with_reducible refine Kd.C_drewN ?_ _) | (with_reducible refine Kd.C_drew ?_) | exact HR299.out)) hb)
                          have n6_ := Aside0.mk (Kd.C_below (by repeat (first | (with_reducible exact HR306.out) | (with_reducible refine Kd.C_alloc ?_ _) | (with_reducible refine Kd.C_drewN ?_ _) | (with_reducible refine Kd.C_drew ?_) | exact HR306.out)) hb)
                          have n7_ := Aside0.mk (below_step (by repeat (first | (with_reducible first | exact HB.out | apply below_alloc | apply pw_below_drewN | apply below_drew1 | refine below_set ?_ GE281.out | refine below_set ?_ GE282.out) | exact HB.out)) hb)
                          clear HO_7
                          clear HO_9
                          clear BK281
                          clear BK282
                          clear HR299
                          clear HR306
                          clear HB
                          have HO_7 := n0_
                          have HO_9 := n1_
                          have HO295 := n2_
                          have BK281 := n3_
                          have BK282 := n4_
                          have HR299 := n5_
                          have HR306 := n6_
                          have HB := n7_
                          clear n0_ n1_ n2_ n3_ n4_ n5_ n6_ n7_
                          clear hb ho51
                          refine hK.out _ _ trivial (fun hHeld => ?_)
                          clear hK K
                          refine norm_ (a' := ?_) ?_ ?_
                          rotate_left
                          · show Act.put _ (some 69) _ = _
                            simp only [Act.put, List.setIfInBounds_toArray, List.set_cons_zero, List.set_cons_succ, i64_w, i32_w]
                            rfl
                          refine one_ (i := 4) (N := some 73) #[true, true, true, true, true, true, true, true, false, false] rfl rfl (one_of HT_.out (by kernel_rfl)) (by decide) (fun K hK => ?_)
                          refine Kd.R_append_rows_step Kd.string (w0 := w) w.heap.size (by rfl) (.tmp 69) (.tmp 72) 22 9 (.string ⟨#[]⟩) 16 rfl Try.underlying22 info9 rfl (by decide) (by omega) v294 y293 y296 _ _ _ (fun k_ => some k_ ≠ (.slice Ao31 t283.length co31 : Value).ownBlock ∧ some k_ ≠ (.slice Ao49 t287.length co49 : Value).ownBlock) (fun _ => False) rfl rfl ?aO ?aR (fun _ _ h => h) (fun _ h => h.elim) ?aF ?aB ?aS ?aL ?_
                          (case aR => repeat (first | exact (by repeat (first | (with_reducible exact HR299.out) | (with_reducible refine Kd.C_alloc ?_ _) | (with_reducible refine Kd.C_drewN ?_ _) | (with_reducible refine Kd.C_drew ?_) | exact HR299.out)) | (with_reducible refine Kd.C_alloc ?_ _) | (with_reducible refine Kd.C_drewN ?_ _) | (with_reducible refine Kd.C_drew ?_)))
                          (case aB => exact (by repeat (first | (with_reducible first | exact HB.out | apply below_alloc | apply pw_below_drewN | apply below_drew1 | refine below_set ?_ GE281.out | refine below_set ?_ GE282.out) | exact HB.out)))
                          (case aF => exact (fun k_ hk => ⟨Kd.fresh' (Kd.R_lt (by (with_reducible repeat (first | apply Kd.R_alloc | apply Kd.R_drewN | apply Kd.R_drew)); exact HO_7.out)) k_ hk, Kd.fresh' (Kd.R_lt (by (with_reducible repeat (first | apply Kd.R_alloc | apply Kd.R_drewN | apply Kd.R_drew)); exact HO_9.out)) k_ hk⟩))
                          (case aO => exact (by (with_reducible repeat (first | apply Kd.R_alloc | apply Kd.R_drewN | apply Kd.R_drew)); exact Kd.R_mono HO295.out (fun _ hk => ⟨hk.1.2, hk.2⟩)))
                          (case aS => exact (below_size (by repeat (first | (with_reducible first | exact HB.out | apply below_alloc | apply pw_below_drewN | apply below_drew1 | refine below_set ?_ GE281.out | refine below_set ?_ GE282.out) | exact HB.out))))
                          (case aL => have := LMc39.out; omega)
                          intro v301 w52 ho hb hg hat
                          rw [← Ny300.out] at ho
                          have n0_ := Aside0.mk (Kd.R_after (ok := (fun k_ => some k_ ≠ (.slice Ao49 t287.length co49 : Value).ownBlock)) (by (with_reducible repeat (first | apply Kd.R_alloc | apply Kd.R_drewN | apply Kd.R_drew)); exact HO_7.out) hg hat)
                          have n1_ := Aside0.mk (Kd.R_after (ok := (fun k_ => some k_ ≠ (.slice Ao31 t283.length co31 : Value).ownBlock)) (by (with_reducible repeat (first | apply Kd.R_alloc | apply Kd.R_drewN | apply Kd.R_drew)); exact HO_9.out) hg hat)
                          have n2_ := Aside0.mk (blk_grown (g := gb281) (o := .cells #[.int .i64 a0_0, .string a0_1] 42 (0, 0)) (by (with_reducible repeat (first | refine blk_drewN ?_ _ | refine blk_drew ?_ | refine blk_alloc ?_ _)); exact BK281.out) hg (by first | exact Kd.R_away HO295.out (fun _ hk => hk.2) | exact Kd.R_ne HO295.out BK281.out (by decide)))
                          have n3_ := Aside0.mk (blk_grown (g := gb282) (o := .cells #[.int .i64 a1_0, .string a1_1] 42 (0, 0)) (by (with_reducible repeat (first | refine blk_drewN ?_ _ | refine blk_drew ?_ | refine blk_alloc ?_ _)); exact BK282.out) hg (by first | exact Kd.R_away HO295.out (fun _ hk => hk.2) | exact Kd.R_ne HO295.out BK282.out (by decide)))
                          have n4_ := Aside0.mk (hb)
                          have n5_ := Aside0.mk ((show Kd.C Kd.string w52 Ao31 y296.length y296 from by rw [Ny296.out]; exact Kd.C_take (m := (ji29 : Int).toNat) ((Kd.R_reads' (Kd.R_after (ok := (fun k_ => some k_ ≠ (.slice Ao49 t287.length co49 : Value).ownBlock)) (by (with_reducible repeat (first | apply Kd.R_alloc | apply Kd.R_drewN | apply Kd.R_drew)); exact HO_7.out) hg hat)).2.2) KL47.out))
                          have n6_ := Aside0.mk ((show Kd.C Kd.string w52 A48 y303.length y303 from by rw [Ny303.out, KA48.out]; exact Kd.C_drop (m := (ji29 : Int).toNat) (c := co49) ((Kd.R_reads' (Kd.R_after (ok := (fun k_ => some k_ ≠ (.slice Ao31 t283.length co31 : Value).ownBlock)) (by (with_reducible repeat (first | apply Kd.R_alloc | apply Kd.R_drewN | apply Kd.R_drew)); exact HO_9.out) hg hat)).2.2) KL48.out ((Kd.R_reads' (Kd.R_after (ok := (fun k_ => some k_ ≠ (.slice Ao31 t283.length co31 : Value).ownBlock)) (by (with_reducible repeat (first | apply Kd.R_alloc | apply Kd.R_drewN | apply Kd.R_drew)); exact HO_9.out) hg hat)).2.1)))
                          have n7_ := Aside0.mk (ho)
                          clear HO_7
                          clear HO_9
                          clear BK281
                          clear BK282
                          clear HB
                          clear HR299
                          clear HR306
                          clear HO295
                          have HO_7 := n0_
                          have HO_9 := n1_
                          have BK281 := n2_
                          have BK282 := n3_
                          have HB := n4_
                          have HR299 := n5_
                          have HR306 := n6_
                          have HO302 := n7_
                          clear n0_ n1_ n2_ n3_ n4_ n5_ n6_ n7_
                          clear ho hb hg hat
                          refine hK.out _ _ trivial (fun hHeld => ?_)
                          clear hK K
                          refine norm_ (a' := ?_) ?_ ?_
                          rotate_left
                          · show Act.put _ (some 73) _ = _
                            simp only [Act.put, List.setIfInBounds_toArray, List.set_cons_zero, List.set_cons_succ, i64_w, i32_w]
                            rfl
                          refine one_ (i := 8) (N := some 77) #[true, true, true, true, true, true, true, true, true, false] rfl rfl (one_of HT_.out (by kernel_rfl)) (by decide) (fun K hK => ?_)
                          refine Kd.R_append_rows_step Kd.string (w0 := w) w.heap.size (by rfl) (.tmp 73) (.tmp 76) 22 9 (.string ⟨#[]⟩) 16 rfl Try.underlying22 info9 rfl (by decide) (by omega) v301 y300 y303 _ _ _ (fun k_ => some k_ ≠ (.slice Ao31 t283.length co31 : Value).ownBlock ∧ some k_ ≠ (.slice Ao49 t287.length co49 : Value).ownBlock) (fun _ => False) rfl rfl ?aO ?aR (fun _ _ h => h) (fun _ h => h.elim) ?aF ?aB ?aS ?aL ?_
                          (case aR => repeat (first | exact (by repeat (first | (with_reducible exact HR306.out) | (with_reducible refine Kd.C_alloc ?_ _) | (with_reducible refine Kd.C_drewN ?_ _) | (with_reducible refine Kd.C_drew ?_) | exact HR306.out)) | (with_reducible refine Kd.C_alloc ?_ _) | (with_reducible refine Kd.C_drewN ?_ _) | (with_reducible refine Kd.C_drew ?_)))
                          (case aB => exact (by repeat (first | (with_reducible first | exact HB.out | apply below_alloc | apply pw_below_drewN | apply below_drew1 | refine below_set ?_ GE281.out | refine below_set ?_ GE282.out) | exact HB.out)))
                          (case aF => exact (fun k_ hk => ⟨Kd.fresh' (Kd.R_lt (by (with_reducible repeat (first | apply Kd.R_alloc | apply Kd.R_drewN | apply Kd.R_drew)); exact HO_7.out)) k_ hk, Kd.fresh' (Kd.R_lt (by (with_reducible repeat (first | apply Kd.R_alloc | apply Kd.R_drewN | apply Kd.R_drew)); exact HO_9.out)) k_ hk⟩))
                          (case aO => exact (by (with_reducible repeat (first | apply Kd.R_alloc | apply Kd.R_drewN | apply Kd.R_drew)); exact HO302.out))
                          (case aS => exact (below_size (by repeat (first | (with_reducible first | exact HB.out | apply below_alloc | apply pw_below_drewN | apply below_drew1 | refine below_set ?_ GE281.out | refine below_set ?_ GE282.out) | exact HB.out))))
                          (case aL => have := LMc42.out; omega)
                          intro v308 w53 ho hb hg hat
                          rw [← Ny307.out] at ho
                          have n0_ := Aside0.mk (Kd.R_after (ok := (fun k_ => some k_ ≠ (.slice Ao49 t287.length co49 : Value).ownBlock)) (by (with_reducible repeat (first | apply Kd.R_alloc | apply Kd.R_drewN | apply Kd.R_drew)); exact HO_7.out) hg hat)
                          have n1_ := Aside0.mk (Kd.R_after (ok := (fun k_ => some k_ ≠ (.slice Ao31 t283.length co31 : Value).ownBlock)) (by (with_reducible repeat (first | apply Kd.R_alloc | apply Kd.R_drewN | apply Kd.R_drew)); exact HO_9.out) hg hat)
                          have n2_ := Aside0.mk (blk_grown (g := gb281) (o := .cells #[.int .i64 a0_0, .string a0_1] 42 (0, 0)) (by (with_reducible repeat (first | refine blk_drewN ?_ _ | refine blk_drew ?_ | refine blk_alloc ?_ _)); exact BK281.out) hg (by first | exact Kd.R_away HO302.out (fun _ hk => hk.2) | exact Kd.R_ne HO302.out BK281.out (by decide)))
                          have n3_ := Aside0.mk (blk_grown (g := gb282) (o := .cells #[.int .i64 a1_0, .string a1_1] 42 (0, 0)) (by (with_reducible repeat (first | refine blk_drewN ?_ _ | refine blk_drew ?_ | refine blk_alloc ?_ _)); exact BK282.out) hg (by first | exact Kd.R_away HO302.out (fun _ hk => hk.2) | exact Kd.R_ne HO302.out BK282.out (by decide)))
                          have n4_ := Aside0.mk (hb)
                          have n5_ := Aside0.mk ((show Kd.C Kd.string w53 Ao31 y296.length y296 from by rw [Ny296.out]; exact Kd.C_take (m := (ji29 : Int).toNat) ((Kd.R_reads' (Kd.R_after (ok := (fun k_ => some k_ ≠ (.slice Ao49 t287.length co49 : Value).ownBlock)) (by (with_reducible repeat (first | apply Kd.R_alloc | apply Kd.R_drewN | apply Kd.R_drew)); exact HO_7.out) hg hat)).2.2) KL47.out))
                          have n6_ := Aside0.mk ((show Kd.C Kd.string w53 A48 y303.length y303 from by rw [Ny303.out, KA48.out]; exact Kd.C_drop (m := (ji29 : Int).toNat) (c := co49) ((Kd.R_reads' (Kd.R_after (ok := (fun k_ => some k_ ≠ (.slice Ao31 t283.length co31 : Value).ownBlock)) (by (with_reducible repeat (first | apply Kd.R_alloc | apply Kd.R_drewN | apply Kd.R_drew)); exact HO_9.out) hg hat)).2.2) KL48.out ((Kd.R_reads' (Kd.R_after (ok := (fun k_ => some k_ ≠ (.slice Ao31 t283.length co31 : Value).ownBlock)) (by (with_reducible repeat (first | apply Kd.R_alloc | apply Kd.R_drewN | apply Kd.R_drew)); exact HO_9.out) hg hat)).2.1)))
                          have n7_ := Aside0.mk (ho)
                          clear HO_7
                          clear HO_9
                          clear BK281
                          clear BK282
                          clear HB
                          clear HR299
                          clear HR306
                          clear HO302
                          have HO_7 := n0_
                          have HO_9 := n1_
                          have BK281 := n2_
                          have BK282 := n3_
                          have HB := n4_
                          have HR299 := n5_
                          have HR306 := n6_
                          have HO309 := n7_
                          clear n0_ n1_ n2_ n3_ n4_ n5_ n6_ n7_
                          clear ho hb hg hat
                          refine hK.out _ _ trivial (fun hHeld => ?_)
                          clear hK K
                          refine norm_ (a' := ?_) ?_ ?_
                          rotate_left
                          · show Act.put _ (some 77) _ = _
                            simp only [Act.put, List.setIfInBounds_toArray, List.set_cons_zero, List.set_cons_succ, i64_w, i32_w]
                            rfl
                          refine pure_ (i := 9) (N := some 12) (v := ?_) (a' := ?_) #[true, true, true, true, true, true, true, true, true, true] rfl rfl (any_of HT_.out (by kernel_rfl)) (fun _ _ _ h => h) (Or.inl ⟨by rfl, ?_⟩) ?_ ?_
                          rotate_left
                          · intro w'
                            go_simp
                            with_reducible rfl
                          rotate_left
                          · simp only [Act.put, List.setIfInBounds_toArray, List.set_cons_zero, List.set_cons_succ, i64_w, i32_w]
                            rfl
                          refine done_ (done_of HT_.out (by kernel_rfl)) ?_
                          obtain ⟨Ao54, co54, eo54⟩ := Kd.R_slice HO309.out
                          subst eo54
                          try go_wp2_with (first | ((with_reducible refine gate_callee (f := 19) rfl ?_); refine goesL_ (some 80) rfl rfl Try.func19 (by kernel_rfl) rfl #[.slice Ao54 y307.length co54] rfl (by (try simp only [List.map_toArray, List.map_cons, List.map_nil]); first | done | rfl | (simp only [List.length_drop, List.length_take]; rfl)) ?_; (with_reducible refine (frames_Join.calls kj29 _ _ y307 t310 t311 t312 t313 _ ?side1 ?side2 A43.out).mono ?_); (case side1 => repeat (first | exact (Kd.R_reads' HO309.out).2.2 | (with_reducible refine Kd.C_alloc ?_ _) | (with_reducible refine Kd.C_drewN ?_ _) | (with_reducible refine Kd.C_drew ?_))); (case side2 => exact (Kd.R_reads' HO309.out).2.1); rintro e w55 ⟨rfl, hb⟩; refine ⟨_, rfl, ?_⟩; have n0_ := Aside0.mk (Kd.R_below (by (with_reducible repeat (first | apply Kd.R_alloc | apply Kd.R_drewN | apply Kd.R_drew)); exact HO_7.out) hb); have n1_ := Aside0.mk (Kd.R_below (by (with_reducible repeat (first | apply Kd.R_alloc | apply Kd.R_drewN | apply Kd.R_drew)); exact HO_9.out) hb); have n2_ := Aside0.mk (Kd.R_below (by (with_reducible repeat (first | apply Kd.R_alloc | apply Kd.R_drewN | apply Kd.R_drew)); exact HO309.out) hb); have n3_ := Aside0.mk (blk_below (g := gb281) (o := .cells #[.int .i64 a0_0, .string a0_1] 42 (0, 0)) (by (with_reducible repeat (first | refine blk_drewN ?_ _ | refine blk_drew ?_ | refine blk_alloc ?_ _)); exact BK281.out) hb); have n4_ := Aside0.mk (blk_below (g := gb282) (o := .cells #[.int .i64 a1_0, .string a1_1] 42 (0, 0)) (by (with_reducible repeat (first | refine blk_drewN ?_ _ | refine blk_drew ?_ | refine blk_alloc ?_ _)); exact BK282.out) hb); have n5_ := Aside0.mk (Kd.C_below (by repeat (first | (with_reducible exact HR299.out) | (with_reducible refine Kd.C_alloc ?_ _) | (with_reducible refine Kd.C_drewN ?_ _) | (with_reducible refine Kd.C_drew ?_) | exact HR299.out)) hb); have n6_ := Aside0.mk (Kd.C_below (by repeat (first | (with_reducible exact HR306.out) | (with_reducible refine Kd.C_alloc ?_ _) | (with_reducible refine Kd.C_drewN ?_ _) | (with_reducible refine Kd.C_drew ?_) | exact HR306.out)) hb); have n7_ := Aside0.mk (below_step (by repeat (first | (with_reducible first | exact HB.out | apply below_alloc | apply pw_below_drewN | apply below_drew1 | refine below_set ?_ GE281.out | refine below_set ?_ GE282.out) | exact HB.out)) hb); clear HO_7; clear HO_9; clear HO309; clear BK281; clear BK282; clear HR299; clear HR306; clear HB; have HO_7 := n0_; have HO_9 := n1_; have HO309 := n2_; have BK281 := n3_; have BK282 := n4_; have HR299 := n5_; have HR306 := n6_; have HB := n7_; clear n0_ n1_ n2_ n3_ n4_ n5_ n6_ n7_; (try clear hb); (try clear hb2); (try clear hk); (try clear hi)) | (go_at_call 18; (with_reducible refine (stevedorelaw04_awake.calls kj29  t314 _ A45.out).mono ?_); rintro e w56 ⟨rfl, hb⟩; have n0_ := Aside0.mk (Kd.R_below (by (with_reducible repeat (first | apply Kd.R_alloc | apply Kd.R_drewN | apply Kd.R_drew)); exact HO_7.out) hb); have n1_ := Aside0.mk (Kd.R_below (by (with_reducible repeat (first | apply Kd.R_alloc | apply Kd.R_drewN | apply Kd.R_drew)); exact HO_9.out) hb); have n2_ := Aside0.mk (Kd.R_below (by (with_reducible repeat (first | apply Kd.R_alloc | apply Kd.R_drewN | apply Kd.R_drew)); exact HO309.out) hb); have n3_ := Aside0.mk (blk_below (g := gb281) (o := .cells #[.int .i64 a0_0, .string a0_1] 42 (0, 0)) (by (with_reducible repeat (first | refine blk_drewN ?_ _ | refine blk_drew ?_ | refine blk_alloc ?_ _)); exact BK281.out) hb); have n4_ := Aside0.mk (blk_below (g := gb282) (o := .cells #[.int .i64 a1_0, .string a1_1] 42 (0, 0)) (by (with_reducible repeat (first | refine blk_drewN ?_ _ | refine blk_drew ?_ | refine blk_alloc ?_ _)); exact BK282.out) hb); have n5_ := Aside0.mk (Kd.C_below (by repeat (first | (with_reducible exact HR299.out) | (with_reducible refine Kd.C_alloc ?_ _) | (with_reducible refine Kd.C_drewN ?_ _) | (with_reducible refine Kd.C_drew ?_) | exact HR299.out)) hb); have n6_ := Aside0.mk (Kd.C_below (by repeat (first | (with_reducible exact HR306.out) | (with_reducible refine Kd.C_alloc ?_ _) | (with_reducible refine Kd.C_drewN ?_ _) | (with_reducible refine Kd.C_drew ?_) | exact HR306.out)) hb); have n7_ := Aside0.mk (below_step (by repeat (first | (with_reducible first | exact HB.out | apply below_alloc | apply pw_below_drewN | apply below_drew1 | refine below_set ?_ GE281.out | refine below_set ?_ GE282.out) | exact HB.out)) hb); clear HO_7; clear HO_9; clear HO309; clear BK281; clear BK282; clear HR299; clear HR306; clear HB; have HO_7 := n0_; have HO_9 := n1_; have HO309 := n2_; have BK281 := n3_; have BK282 := n4_; have HR299 := n5_; have HR306 := n6_; have HB := n7_; clear n0_ n1_ n2_ n3_ n4_ n5_ n6_ n7_; (try clear hb); (try clear hb2); (try clear hk); (try clear hi)))
                          go_ret
                          exact ⟨by first | rfl | (simp [errW_none, errW_some] <;> rfl) | (simp only [← hji28, ← hji29]; first | rfl | (simp [errW_none, errW_some] <;> rfl)) | (simp [*, errW_none, errW_some] <;> rfl), by repeat (first | (with_reducible first | exact HB.out | apply below_alloc | apply pw_below_drewN | apply below_drew1 | refine below_set ?_ GE281.out | refine below_set ?_ GE282.out) | exact HB.out)⟩
                        · rw [if_neg c44] at H
                          have c44b0 : (t313 == 43) = false := beq_eq_false_iff_ne.mpr c44
                          have c44b1 : (t313 != 43) = true := bne_iff_ne.mpr c44
                          obtain rfl := Option.some.inj H
                          try go_wp2
                          have n0_ := Aside0.mk (Kd.R_drew HO_7.out)
                          have n1_ := Aside0.mk (Kd.R_drew HO_9.out)
                          have n2_ := Aside0.mk (blk_drew BK281.out)
                          have n3_ := Aside0.mk (blk_drew BK282.out)
                          have n4_ := Aside0.mk (below_drew1 HB.out)
                          clear HO_7
                          clear HO_9
                          clear BK281
                          clear BK282
                          clear HB
                          have HO_7 := n0_
                          have HO_9 := n1_
                          have BK281 := n2_
                          have BK282 := n3_
                          have HB := n4_
                          clear n0_ n1_ n2_ n3_ n4_
                          have q58 : (ji29 : Int) ≤ ((t283.length : Int) : Int) := of_decide_eq_true (by first | (with_reducible assumption) | assumption)
                          obtain ⟨i058, hi058, _, hsz58, _⟩ := info_parts info9
                          have hroom58 : t283.length ≤ co31 := (Kd.R_reads' HO_7.out).2.1
                          have hC58 : Kd.C Kd.string _ Ao31 t283.length t283 := (Kd.R_reads' HO_7.out).2.2
                          have hcut58 := cut_to (P := Try.prog) 22 9 .i64 Try.underlying22 hi058 Ao31 t283.length co31 ji29 (of_decide_eq_true (by first | (with_reducible assumption) | assumption)) q58 hroom58
                          have hr58 := Kd.C_take (m := (ji29 : Int).toNat) hC58 (by omega)
                          have hy58 : y296.length = (ji29 : Int).toNat := (by rw [Ny296.out, List.length_take]; omega)
                          rw [← Ny296.out] at hr58
                          rw [← hy58] at hcut58
                          have HR299 := Aside0.mk hr58
                          have HC299 := Aside0.mk (show y296.length ≤ co31 from by omega)
                          clear hr58 hC58 hroom58 hi058 hsz58
                          have KY58 := Aside0.mk hy58
                          clear hy58
                          have KL58 := Aside0.mk (show (ji29 : Int).toNat ≤ t283.length from by omega)
                          replace q58 := eq_true q58
                          obtain ⟨Ao60, co60, eo60⟩ := Kd.R_slice HO_9.out
                          (first | subst eo60 | (injection eo60 with f1_ f2_ f3_; have f4_ := f1_.symm; have f5_ := f3_.symm; clear f1_ f2_ f3_; subst f4_; subst f5_))
                          have q59 : (ji29 : Int) ≤ ((t287.length : Int) : Int) := of_decide_eq_true (by first | (with_reducible assumption) | assumption)
                          obtain ⟨i059, hi059, _, hsz59, _⟩ := info_parts info9
                          have hroom59 : t287.length ≤ co60 := (Kd.R_reads' HO_9.out).2.1
                          have hC59 : Kd.C Kd.string _ Ao60 t287.length t287 := (Kd.R_reads' HO_9.out).2.2
                          have q059 : (0 : Int) ≤ (ji29 : Int) := of_decide_eq_true (by first | (with_reducible assumption) | assumption)
                          have hcut59 := cut_from (P := Try.prog) 22 9 .i64 Try.underlying22 hi059 1 hsz59 Ao60 t287.length co60 ji29 q059 q59
                          have hr59 := Kd.C_drop (m := (ji29 : Int).toNat) (c := co60) hC59 (by omega) hroom59
                          obtain ⟨A59, hA59⟩ : ∃ A1, A1 = (if co60 = (ji29 : Int).toNat then Ao60 else (Ao60 : Option Addr).map (·.add ((ji29 : Int).toNat * 1))) := ⟨_, rfl⟩
                          obtain ⟨c59, hc59⟩ : ∃ c1, c1 = co60 - (ji29 : Int).toNat := ⟨_, rfl⟩
                          have hy59 : y303.length = t287.length - (ji29 : Int).toNat := (by rw [Ny303.out, List.length_drop] <;> omega)
                          rw [show (t287).drop (ji29 : Int).toNat = y303 from Ny303.out.symm] at hr59
                          replace hr59 : Kd.C Kd.string _ A59 y303.length y303 := (by rw [hA59]; exact hr59)
                          rw [← hy59, ← hA59, ← hc59] at hcut59
                          have HR306 := Aside0.mk hr59
                          have HC306 := Aside0.mk (show y303.length ≤ c59 from by rw [hy59, hc59]; exact Nat.sub_le_sub_right hroom59 _)
                          clear hr59 hC59 hroom59 hi059 hsz59 hc59
                          have KY59 := Aside0.mk hy59
                          have KA59 := Aside0.mk hA59
                          clear hy59 hA59
                          have KL59 := Aside0.mk (show (ji29 : Int).toNat ≤ t287.length from by omega)
                          replace q59 := eq_true q59
                          refine start_ (n := 10) (S := fun w' => True) (ds := []) #[false, false, false, false, false, false, false, false, false, false] (by kernel_rfl) rfl rfl trivial (fun hHeld => ?_); refine with_tabW stevedorelaw04_FramesTorn.tab8 stevedorelaw04_FramesTorn.bits8 (fun HT_ HW_ => ?_)
                          generalize wc.drew = w57 at HO_7 HO_9 BK281 BK282 HB HR299 HR306 hHeld ⊢
                          refine pure_ (i := 1) (N := some 70) (v := ?_) (a' := ?_) #[false, true, false, false, false, false, false, false, false, false] rfl rfl (any_of HT_.out (by kernel_rfl)) (fun _ _ _ h => h) (Or.inl ⟨by rfl, ?_⟩) ?_ ?_
                          rotate_left
                          · intro w'
                            go_simp
                            with_reducible rfl
                          rotate_left
                          · simp only [Act.put, List.setIfInBounds_toArray, List.set_cons_zero, List.set_cons_succ, i64_w, i32_w]
                            rfl
                          refine pure_ (i := 2) (N := some 71) (v := ?_) (a' := ?_) #[false, true, true, false, false, false, false, false, false, false] rfl rfl (any_of HT_.out (by kernel_rfl)) (fun _ _ _ h => h) (Or.inl ⟨by rfl, ?_⟩) ?_ ?_
                          rotate_left
                          · intro w'
                            go_simp
                            with_reducible rfl
                          rotate_left
                          · simp only [Act.put, List.setIfInBounds_toArray, List.set_cons_zero, List.set_cons_succ, i64_w, i32_w]
                            rfl
                          refine pure_ (i := 3) (N := some 72) (v := ?_) (a' := ?_) #[false, true, true, true, false, false, false, false, false, false] rfl rfl (any_of HT_.out (by kernel_rfl)) (fun _ _ _ h => h) (Or.inl ⟨by rfl, ?_⟩) ?_ ?_
                          rotate_left
                          · intro w'
                            go_simp
                            with_reducible rfl
                          rotate_left
                          · simp only [Act.put, List.setIfInBounds_toArray, List.set_cons_zero, List.set_cons_succ, i64_w, i32_w]
                            rfl
                          refine pure_ (i := 5) (N := some 74) (v := ?_) (a' := ?_) #[false, true, true, true, false, true, false, false, false, false] rfl rfl (any_of HT_.out (by kernel_rfl)) (fun _ _ _ h => h) (Or.inl ⟨by rfl, ?_⟩) ?_ ?_
                          rotate_left
                          · intro w'
                            go_simp
                            with_reducible rfl
                          rotate_left
                          · simp only [Act.put, List.setIfInBounds_toArray, List.set_cons_zero, List.set_cons_succ, i64_w, i32_w]
                            rfl
                          refine pure_ (i := 6) (N := some 75) (v := ?_) (a' := ?_) #[false, true, true, true, false, true, true, false, false, false] rfl rfl (any_of HT_.out (by kernel_rfl)) (fun _ _ _ h => h) (Or.inl ⟨by rfl, ?_⟩) ?_ ?_
                          rotate_left
                          · intro w'
                            go_simp
                            with_reducible rfl
                          rotate_left
                          · simp only [Act.put, List.setIfInBounds_toArray, List.set_cons_zero, List.set_cons_succ, i64_w, i32_w]
                            rfl
                          refine pure_ (i := 7) (N := some 76) (v := ?_) (a' := ?_) #[false, true, true, true, false, true, true, true, false, false] rfl rfl (any_of HT_.out (by kernel_rfl)) (fun _ _ _ h => h) (Or.inl ⟨by rfl, ?_⟩) ?_ ?_
                          rotate_left
                          · intro w'
                            go_simp
                            with_reducible rfl
                          rotate_left
                          · simp only [Act.put, List.setIfInBounds_toArray, List.set_cons_zero, List.set_cons_succ, i64_w, i32_w]
                            rfl
                          refine one_ (i := 0) (N := some 69) #[true, true, true, true, false, true, true, true, false, false] rfl rfl (one_of HT_.out (by kernel_rfl)) (by decide) (fun K hK => ?_)
                          refine Kd.R_lit_step Kd.string _ 9 ?hg (N := 69) ?hd (xs := ([] : List ByteArray)) (inner := []) (ok := fun _ => True) (okp := fun _ => True) ?hr ?hp (fun _ hk => hk) trivial (Below.refl _ _) (Nat.le_refl _) (by simp) ?_; (case hd => rfl); (case hg => rfl); (case hr => first | (go_simp; done) | (go_simp; rfl)); (case hp => exact (Reps.none _ _))
                          intro v294 w61 ho62 hb hg_ hnew_
                          clear hg_ hnew_
                          (first | rw [← Ny293.out] at ho62 | (simp only [Int.reduceToNat] at ho62; rw [← Ny293.out] at ho62))
                          have n0_ := Aside0.mk (Kd.R_elder' (by (with_reducible repeat (first | apply Kd.R_alloc | apply Kd.R_drewN | apply Kd.R_drew)); exact HO_7.out) (Kd.R_base ho62) hb)
                          have n1_ := Aside0.mk (Kd.R_elder' (by (with_reducible repeat (first | apply Kd.R_alloc | apply Kd.R_drewN | apply Kd.R_drew)); exact HO_9.out) (Kd.R_base ho62) hb)
                          have n2_ := Aside0.mk (Kd.R_lower (Kd.R_new' (Kd.R_new' ho62 (Kd.R_lt (by (with_reducible repeat (first | apply Kd.R_alloc | apply Kd.R_drewN | apply Kd.R_drew)); exact HO_7.out))) (Kd.R_lt (by (with_reducible repeat (first | apply Kd.R_alloc | apply Kd.R_drewN | apply Kd.R_drew)); exact HO_9.out))) (below_size (by repeat (first | (with_reducible first | exact HB.out | apply below_alloc | apply pw_below_drewN | apply below_drew1 | refine below_set ?_ GE281.out | refine below_set ?_ GE282.out) | exact HB.out))))
                          have n3_ := Aside0.mk (blk_below (g := gb281) (o := .cells #[.int .i64 a0_0, .string a0_1] 42 (0, 0)) (by (with_reducible repeat (first | refine blk_drewN ?_ _ | refine blk_drew ?_ | refine blk_alloc ?_ _)); exact BK281.out) hb)
                          have n4_ := Aside0.mk (blk_below (g := gb282) (o := .cells #[.int .i64 a1_0, .string a1_1] 42 (0, 0)) (by (with_reducible repeat (first | refine blk_drewN ?_ _ | refine blk_drew ?_ | refine blk_alloc ?_ _)); exact BK282.out) hb)
                          have n5_ := Aside0.mk (Kd.C_below (by repeat (first | (with_reducible exact HR299.out) | (with_reducible refine Kd.C_alloc ?_ _) | (with_reducible refine Kd.C_drewN ?_ _) | (with_reducible refine Kd.C_drew ?_) | exact HR299.out)) hb)
                          have n6_ := Aside0.mk (Kd.C_below (by repeat (first | (with_reducible exact HR306.out) | (with_reducible refine Kd.C_alloc ?_ _) | (with_reducible refine Kd.C_drewN ?_ _) | (with_reducible refine Kd.C_drew ?_) | exact HR306.out)) hb)
                          have n7_ := Aside0.mk (below_step (by repeat (first | (with_reducible first | exact HB.out | apply below_alloc | apply pw_below_drewN | apply below_drew1 | refine below_set ?_ GE281.out | refine below_set ?_ GE282.out) | exact HB.out)) hb)
                          clear HO_7
                          clear HO_9
                          clear BK281
                          clear BK282
                          clear HR299
                          clear HR306
                          clear HB
                          have HO_7 := n0_
                          have HO_9 := n1_
                          have HO295 := n2_
                          have BK281 := n3_
                          have BK282 := n4_
                          have HR299 := n5_
                          have HR306 := n6_
                          have HB := n7_
                          clear n0_ n1_ n2_ n3_ n4_ n5_ n6_ n7_
                          clear hb ho62
                          refine hK.out _ _ trivial (fun hHeld => ?_)
                          clear hK K
                          refine norm_ (a' := ?_) ?_ ?_
                          rotate_left
                          · show Act.put _ (some 69) _ = _
                            simp only [Act.put, List.setIfInBounds_toArray, List.set_cons_zero, List.set_cons_succ, i64_w, i32_w]
                            rfl
                          refine one_ (i := 4) (N := some 73) #[true, true, true, true, true, true, true, true, false, false] rfl rfl (one_of HT_.out (by kernel_rfl)) (by decide) (fun K hK => ?_)
                          refine Kd.R_append_rows_step Kd.string (w0 := w) w.heap.size (by rfl) (.tmp 69) (.tmp 72) 22 9 (.string ⟨#[]⟩) 16 rfl Try.underlying22 info9 rfl (by decide) (by omega) v294 y293 y296 _ _ _ (fun k_ => some k_ ≠ (.slice Ao31 t283.length co31 : Value).ownBlock ∧ some k_ ≠ (.slice Ao60 t287.length co60 : Value).ownBlock) (fun _ => False) rfl rfl ?aO ?aR (fun _ _ h => h) (fun _ h => h.elim) ?aF ?aB ?aS ?aL ?_
                          (case aR => repeat (first | exact (by repeat (first | (with_reducible exact HR299.out) | (with_reducible refine Kd.C_alloc ?_ _) | (with_reducible refine Kd.C_drewN ?_ _) | (with_reducible refine Kd.C_drew ?_) | exact HR299.out)) | (with_reducible refine Kd.C_alloc ?_ _) | (with_reducible refine Kd.C_drewN ?_ _) | (with_reducible refine Kd.C_drew ?_)))
                          (case aB => exact (by repeat (first | (with_reducible first | exact HB.out | apply below_alloc | apply pw_below_drewN | apply below_drew1 | refine below_set ?_ GE281.out | refine below_set ?_ GE282.out) | exact HB.out)))
                          (case aF => exact (fun k_ hk => ⟨Kd.fresh' (Kd.R_lt (by (with_reducible repeat (first | apply Kd.R_alloc | apply Kd.R_drewN | apply Kd.R_drew)); exact HO_7.out)) k_ hk, Kd.fresh' (Kd.R_lt (by (with_reducible repeat (first | apply Kd.R_alloc | apply Kd.R_drewN | apply Kd.R_drew)); exact HO_9.out)) k_ hk⟩))
                          (case aO => exact (by (with_reducible repeat (first | apply Kd.R_alloc | apply Kd.R_drewN | apply Kd.R_drew)); exact Kd.R_mono HO295.out (fun _ hk => ⟨hk.1.2, hk.2⟩)))
                          (case aS => exact (below_size (by repeat (first | (with_reducible first | exact HB.out | apply below_alloc | apply pw_below_drewN | apply below_drew1 | refine below_set ?_ GE281.out | refine below_set ?_ GE282.out) | exact HB.out))))
                          (case aL => have := LMc39.out; omega)
                          intro v301 w63 ho hb hg hat
                          rw [← Ny300.out] at ho
                          have n0_ := Aside0.mk (Kd.R_after (ok := (fun k_ => some k_ ≠ (.slice Ao60 t287.length co60 : Value).ownBlock)) (by (with_reducible repeat (first | apply Kd.R_alloc | apply Kd.R_drewN | apply Kd.R_drew)); exact HO_7.out) hg hat)
                          have n1_ := Aside0.mk (Kd.R_after (ok := (fun k_ => some k_ ≠ (.slice Ao31 t283.length co31 : Value).ownBlock)) (by (with_reducible repeat (first | apply Kd.R_alloc | apply Kd.R_drewN | apply Kd.R_drew)); exact HO_9.out) hg hat)
                          have n2_ := Aside0.mk (blk_grown (g := gb281) (o := .cells #[.int .i64 a0_0, .string a0_1] 42 (0, 0)) (by (with_reducible repeat (first | refine blk_drewN ?_ _ | refine blk_drew ?_ | refine blk_alloc ?_ _)); exact BK281.out) hg (by first | exact Kd.R_away HO295.out (fun _ hk => hk.2) | exact Kd.R_ne HO295.out BK281.out (by decide)))
                          have n3_ := Aside0.mk (blk_grown (g := gb282) (o := .cells #[.int .i64 a1_0, .string a1_1] 42 (0, 0)) (by (with_reducible repeat (first | refine blk_drewN ?_ _ | refine blk_drew ?_ | refine blk_alloc ?_ _)); exact BK282.out) hg (by first | exact Kd.R_away HO295.out (fun _ hk => hk.2) | exact Kd.R_ne HO295.out BK282.out (by decide)))
                          have n4_ := Aside0.mk (hb)
                          have n5_ := Aside0.mk ((show Kd.C Kd.string w63 Ao31 y296.length y296 from by rw [Ny296.out]; exact Kd.C_take (m := (ji29 : Int).toNat) ((Kd.R_reads' (Kd.R_after (ok := (fun k_ => some k_ ≠ (.slice Ao60 t287.length co60 : Value).ownBlock)) (by (with_reducible repeat (first | apply Kd.R_alloc | apply Kd.R_drewN | apply Kd.R_drew)); exact HO_7.out) hg hat)).2.2) KL58.out))
                          have n6_ := Aside0.mk ((show Kd.C Kd.string w63 A59 y303.length y303 from by rw [Ny303.out, KA59.out]; exact Kd.C_drop (m := (ji29 : Int).toNat) (c := co60) ((Kd.R_reads' (Kd.R_after (ok := (fun k_ => some k_ ≠ (.slice Ao31 t283.length co31 : Value).ownBlock)) (by (with_reducible repeat (first | apply Kd.R_alloc | apply Kd.R_drewN | apply Kd.R_drew)); exact HO_9.out) hg hat)).2.2) KL59.out ((Kd.R_reads' (Kd.R_after (ok := (fun k_ => some k_ ≠ (.slice Ao31 t283.length co31 : Value).ownBlock)) (by (with_reducible repeat (first | apply Kd.R_alloc | apply Kd.R_drewN | apply Kd.R_drew)); exact HO_9.out) hg hat)).2.1)))
                          have n7_ := Aside0.mk (ho)
                          clear HO_7
                          clear HO_9
                          clear BK281
                          clear BK282
                          clear HB
                          clear HR299
                          clear HR306
                          clear HO295
                          have HO_7 := n0_
                          have HO_9 := n1_
                          have BK281 := n2_
                          have BK282 := n3_
                          have HB := n4_
                          have HR299 := n5_
                          have HR306 := n6_
                          have HO302 := n7_
                          clear n0_ n1_ n2_ n3_ n4_ n5_ n6_ n7_
                          clear ho hb hg hat
                          refine hK.out _ _ trivial (fun hHeld => ?_)
                          clear hK K
                          refine norm_ (a' := ?_) ?_ ?_
                          rotate_left
                          · show Act.put _ (some 73) _ = _
                            simp only [Act.put, List.setIfInBounds_toArray, List.set_cons_zero, List.set_cons_succ, i64_w, i32_w]
                            rfl
                          refine one_ (i := 8) (N := some 77) #[true, true, true, true, true, true, true, true, true, false] rfl rfl (one_of HT_.out (by kernel_rfl)) (by decide) (fun K hK => ?_)
                          refine Kd.R_append_rows_step Kd.string (w0 := w) w.heap.size (by rfl) (.tmp 73) (.tmp 76) 22 9 (.string ⟨#[]⟩) 16 rfl Try.underlying22 info9 rfl (by decide) (by omega) v301 y300 y303 _ _ _ (fun k_ => some k_ ≠ (.slice Ao31 t283.length co31 : Value).ownBlock ∧ some k_ ≠ (.slice Ao60 t287.length co60 : Value).ownBlock) (fun _ => False) rfl rfl ?aO ?aR (fun _ _ h => h) (fun _ h => h.elim) ?aF ?aB ?aS ?aL ?_
                          (case aR => repeat (first | exact (by repeat (first | (with_reducible exact HR306.out) | (with_reducible refine Kd.C_alloc ?_ _) | (with_reducible refine Kd.C_drewN ?_ _) | (with_reducible refine Kd.C_drew ?_) | exact HR306.out)) | (with_reducible refine Kd.C_alloc ?_ _) | (with_reducible refine Kd.C_drewN ?_ _) | (with_reducible refine Kd.C_drew ?_)))
                          (case aB => exact (by repeat (first | (with_reducible first | exact HB.out | apply below_alloc | apply pw_below_drewN | apply below_drew1 | refine below_set ?_ GE281.out | refine below_set ?_ GE282.out) | exact HB.out)))
                          (case aF => exact (fun k_ hk => ⟨Kd.fresh' (Kd.R_lt (by (with_reducible repeat (first | apply Kd.R_alloc | apply Kd.R_drewN | apply Kd.R_drew)); exact HO_7.out)) k_ hk, Kd.fresh' (Kd.R_lt (by (with_reducible repeat (first | apply Kd.R_alloc | apply Kd.R_drewN | apply Kd.R_drew)); exact HO_9.out)) k_ hk⟩))
                          (case aO => exact (by (with_reducible repeat (first | apply Kd.R_alloc | apply Kd.R_drewN | apply Kd.R_drew)); exact HO302.out))
                          (case aS => exact (below_size (by repeat (first | (with_reducible first | exact HB.out | apply below_alloc | apply pw_below_drewN | apply below_drew1 | refine below_set ?_ GE281.out | refine below_set ?_ GE282.out) | exact HB.out))))
                          (case aL => have := LMc42.out; omega)
                          intro v308 w64 ho hb hg hat
                          rw [← Ny307.out] at ho
                          have n0_ := Aside0.mk (Kd.R_after (ok := (fun k_ => some k_ ≠ (.slice Ao60 t287.length co60 : Value).ownBlock)) (by (with_reducible repeat (first | apply Kd.R_alloc | apply Kd.R_drewN | apply Kd.R_drew)); exact HO_7.out) hg hat)
                          have n1_ := Aside0.mk (Kd.R_after (ok := (fun k_ => some k_ ≠ (.slice Ao31 t283.length co31 : Value).ownBlock)) (by (with_reducible repeat (first | apply Kd.R_alloc | apply Kd.R_drewN | apply Kd.R_drew)); exact HO_9.out) hg hat)
                          have n2_ := Aside0.mk (blk_grown (g := gb281) (o := .cells #[.int .i64 a0_0, .string a0_1] 42 (0, 0)) (by (with_reducible repeat (first | refine blk_drewN ?_ _ | refine blk_drew ?_ | refine blk_alloc ?_ _)); exact BK281.out) hg (by first | exact Kd.R_away HO302.out (fun _ hk => hk.2) | exact Kd.R_ne HO302.out BK281.out (by decide)))
                          have n3_ := Aside0.mk (blk_grown (g := gb282) (o := .cells #[.int .i64 a1_0, .string a1_1] 42 (0, 0)) (by (with_reducible repeat (first | refine blk_drewN ?_ _ | refine blk_drew ?_ | refine blk_alloc ?_ _)); exact BK282.out) hg (by first | exact Kd.R_away HO302.out (fun _ hk => hk.2) | exact Kd.R_ne HO302.out BK282.out (by decide)))
                          have n4_ := Aside0.mk (hb)
                          have n5_ := Aside0.mk ((show Kd.C Kd.string w64 Ao31 y296.length y296 from by rw [Ny296.out]; exact Kd.C_take (m := (ji29 : Int).toNat) ((Kd.R_reads' (Kd.R_after (ok := (fun k_ => some k_ ≠ (.slice Ao60 t287.length co60 : Value).ownBlock)) (by (with_reducible repeat (first | apply Kd.R_alloc | apply Kd.R_drewN | apply Kd.R_drew)); exact HO_7.out) hg hat)).2.2) KL58.out))
                          have n6_ := Aside0.mk ((show Kd.C Kd.string w64 A59 y303.length y303 from by rw [Ny303.out, KA59.out]; exact Kd.C_drop (m := (ji29 : Int).toNat) (c := co60) ((Kd.R_reads' (Kd.R_after (ok := (fun k_ => some k_ ≠ (.slice Ao31 t283.length co31 : Value).ownBlock)) (by (with_reducible repeat (first | apply Kd.R_alloc | apply Kd.R_drewN | apply Kd.R_drew)); exact HO_9.out) hg hat)).2.2) KL59.out ((Kd.R_reads' (Kd.R_after (ok := (fun k_ => some k_ ≠ (.slice Ao31 t283.length co31 : Value).ownBlock)) (by (with_reducible repeat (first | apply Kd.R_alloc | apply Kd.R_drewN | apply Kd.R_drew)); exact HO_9.out) hg hat)).2.1)))
                          have n7_ := Aside0.mk (ho)
                          clear HO_7
                          clear HO_9
                          clear BK281
                          clear BK282
                          clear HB
                          clear HR299
                          clear HR306
                          clear HO302
                          have HO_7 := n0_
                          have HO_9 := n1_
                          have BK281 := n2_
                          have BK282 := n3_
                          have HB := n4_
                          have HR299 := n5_
                          have HR306 := n6_
                          have HO309 := n7_
                          clear n0_ n1_ n2_ n3_ n4_ n5_ n6_ n7_
                          clear ho hb hg hat
                          refine hK.out _ _ trivial (fun hHeld => ?_)
                          clear hK K
                          refine norm_ (a' := ?_) ?_ ?_
                          rotate_left
                          · show Act.put _ (some 77) _ = _
                            simp only [Act.put, List.setIfInBounds_toArray, List.set_cons_zero, List.set_cons_succ, i64_w, i32_w]
                            rfl
                          refine pure_ (i := 9) (N := some 12) (v := ?_) (a' := ?_) #[true, true, true, true, true, true, true, true, true, true] rfl rfl (any_of HT_.out (by kernel_rfl)) (fun _ _ _ h => h) (Or.inl ⟨by rfl, ?_⟩) ?_ ?_
                          rotate_left
                          · intro w'
                            go_simp
                            with_reducible rfl
                          rotate_left
                          · simp only [Act.put, List.setIfInBounds_toArray, List.set_cons_zero, List.set_cons_succ, i64_w, i32_w]
                            rfl
                          refine done_ (done_of HT_.out (by kernel_rfl)) ?_
                          obtain ⟨Ao65, co65, eo65⟩ := Kd.R_slice HO309.out
                          subst eo65
                          try go_wp2_with (first | ((with_reducible refine gate_callee (f := 19) rfl ?_); refine goesL_ (some 80) rfl rfl Try.func19 (by kernel_rfl) rfl #[.slice Ao65 y307.length co65] rfl (by (try simp only [List.map_toArray, List.map_cons, List.map_nil]); first | done | rfl | (simp only [List.length_drop, List.length_take]; rfl)) ?_; (with_reducible refine (frames_Join.calls kj29 _ _ y307 t310 t311 t312 t313 _ ?side1 ?side2 A43.out).mono ?_); (case side1 => repeat (first | exact (Kd.R_reads' HO309.out).2.2 | (with_reducible refine Kd.C_alloc ?_ _) | (with_reducible refine Kd.C_drewN ?_ _) | (with_reducible refine Kd.C_drew ?_))); (case side2 => exact (Kd.R_reads' HO309.out).2.1); rintro e w66 ⟨rfl, hb⟩; refine ⟨_, rfl, ?_⟩; have n0_ := Aside0.mk (Kd.R_below (by (with_reducible repeat (first | apply Kd.R_alloc | apply Kd.R_drewN | apply Kd.R_drew)); exact HO_7.out) hb); have n1_ := Aside0.mk (Kd.R_below (by (with_reducible repeat (first | apply Kd.R_alloc | apply Kd.R_drewN | apply Kd.R_drew)); exact HO_9.out) hb); have n2_ := Aside0.mk (Kd.R_below (by (with_reducible repeat (first | apply Kd.R_alloc | apply Kd.R_drewN | apply Kd.R_drew)); exact HO309.out) hb); have n3_ := Aside0.mk (blk_below (g := gb281) (o := .cells #[.int .i64 a0_0, .string a0_1] 42 (0, 0)) (by (with_reducible repeat (first | refine blk_drewN ?_ _ | refine blk_drew ?_ | refine blk_alloc ?_ _)); exact BK281.out) hb); have n4_ := Aside0.mk (blk_below (g := gb282) (o := .cells #[.int .i64 a1_0, .string a1_1] 42 (0, 0)) (by (with_reducible repeat (first | refine blk_drewN ?_ _ | refine blk_drew ?_ | refine blk_alloc ?_ _)); exact BK282.out) hb); have n5_ := Aside0.mk (Kd.C_below (by repeat (first | (with_reducible exact HR299.out) | (with_reducible refine Kd.C_alloc ?_ _) | (with_reducible refine Kd.C_drewN ?_ _) | (with_reducible refine Kd.C_drew ?_) | exact HR299.out)) hb); have n6_ := Aside0.mk (Kd.C_below (by repeat (first | (with_reducible exact HR306.out) | (with_reducible refine Kd.C_alloc ?_ _) | (with_reducible refine Kd.C_drewN ?_ _) | (with_reducible refine Kd.C_drew ?_) | exact HR306.out)) hb); have n7_ := Aside0.mk (below_step (by repeat (first | (with_reducible first | exact HB.out | apply below_alloc | apply pw_below_drewN | apply below_drew1 | refine below_set ?_ GE281.out | refine below_set ?_ GE282.out) | exact HB.out)) hb); clear HO_7; clear HO_9; clear HO309; clear BK281; clear BK282; clear HR299; clear HR306; clear HB; have HO_7 := n0_; have HO_9 := n1_; have HO309 := n2_; have BK281 := n3_; have BK282 := n4_; have HR299 := n5_; have HR306 := n6_; have HB := n7_; clear n0_ n1_ n2_ n3_ n4_ n5_ n6_ n7_; (try clear hb); (try clear hb2); (try clear hk); (try clear hi)))
                          go_ret
                          exact ⟨by first | rfl | (simp [errW_none, errW_some] <;> rfl) | (simp only [← hji28, ← hji29]; first | rfl | (simp [errW_none, errW_some] <;> rfl)) | (simp [*, errW_none, errW_some] <;> rfl), by repeat (first | (with_reducible first | exact HB.out | apply below_alloc | apply pw_below_drewN | apply below_drew1 | refine below_set ?_ GE281.out | refine below_set ?_ GE282.out) | exact HB.out)⟩
                      · rw [if_neg c42] at H
                        exact absurd H (by simp)
                    · rw [if_neg c41] at H
                      exact absurd H (by simp)
                  · rw [if_neg c39] at H
                    exact absurd H (by simp)
                · rw [if_neg c38] at H
                  exact absurd H (by simp)
              · rw [if_neg c37] at H
                exact absurd H (by simp)

end Go.Proofs.Ytojehachhfcfaaa.Print
