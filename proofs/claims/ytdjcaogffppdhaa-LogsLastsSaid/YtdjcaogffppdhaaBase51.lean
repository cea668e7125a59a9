-- Written by xprint.py, a program of this session, by the kit's printer.
import Derived.Test.YtdjcaogffppdhaaBase50
namespace Go.Proofs.Ytdjcaogffppdhaa
open Go.RowKit Go.Proofs.YtdjcaogffppdhaaW.PrintWords Go.Proofs.YtdjcaogffppdhaaW.PrintLast Go.Proofs.YtdjcaogffppdhaaW.PrintMore
attribute [local go_sem] max2_int min2_int max_two min_two max_three min_three max_four min_four   -- for this text's walks alone
set_option linter.unusedVariables false
set_option linter.unusedSimpArgs false

-- BY HAND: function 62 (nums_Sum)

-- BY HAND: function 56 (frames_Part_sector)

-- BY HAND: function 48 (frames_Lay)

-- BY HAND: function 60 (frames_Part_right)

-- BY HAND: function 52 (frames_Tell)

-- NOT PRINTED: function 74 (abi_NoEscape)

-- NOT PRINTED: function 61 (strings_Builder_copyCheck)

-- NOT PRINTED: function 53 (strings_Builder_WriteString)

-- NOT PRINTED: function 54 (strings_Builder_String)

-- BY HAND: function 55 (slices_Equal_string_string)

/-- The bytes of parts, one behind the other. -/
def datas (l : List S94) : List UInt8 := l.flatMap fun p => p.f3.data.toList
theorem datas_snoc (l : List S94) (i : Int) (h0 : 0 ≤ i) (h : i < (l.length : Int)) : datas (l.take (i + 1).toNat) = datas (l.take i.toNat) ++ (rd_T94 l i).f3.data.toList := by
  unfold datas rd_T94
  rw [show (i + 1).toNat = i.toNat + 1 from by omega, List.take_succ_eq_append_getElem (by omega), List.flatMap_append]
  simp [List.getD_eq_getElem?_getD, show i.toNat < l.length from by omega]
theorem datas_le (l : List S94) (i : Nat) : (datas (l.take i)).length ≤ (datas l).length := by
  have h : datas l = datas (l.take i) ++ datas (l.drop i) := by unfold datas; rw [← List.flatMap_append, List.take_append_drop]
  rw [h, List.length_append]; omega
/-- What frames.Join does behind its parts: it lays them anew and compares. -/
def frames_JoinH.f (k : Nat) (all : List S94) (ss : List ByteArray) : Option (Int × ByteArray × Int × Int) :=
  if 0 < all.length ∧ all.length ≤ ss.length ∧ (datas all).length ≤ 140737488355328 then
    (frames_Lay.f k (rd_T94 all 0).f0 ⟨(datas all).toArray⟩).bind fun t =>
      if t.2 = 0 then (slices_Equal_string_string.f k t.1 (ss.take all.length)).bind fun b => if b = true then some ((rd_T94 all 0).f0, ⟨(datas all).toArray⟩, (all.length : Int), 0) else some (0, (⟨#[]⟩ : ByteArray), 0, 43)
      else some (0, (⟨#[]⟩ : ByteArray), 0, 43)
  else none
theorem frames_JoinH.mono : ∀ a0 a1 k, LeO (frames_JoinH.f k a0 a1) (frames_JoinH.f (k + 1) a0 a1) := by
  intro a0 a1 k
  unfold frames_JoinH.f
  refine LeO.ite (LeO.bind (frames_Lay.mono _ _ _) fun _ => LeO.ite (LeO.bind (slices_Equal_string_string.mono _ _ _) fun _ => LeO.refl _) (LeO.refl _)) (LeO.none _)
/-! ### frames_Join: function 47 -/
mutual
def frames_Join.j1 : Nat → List ByteArray → List (S94) → Option (Int × ByteArray × Int × Int)
  | 0, _, _ => none
  | k + 1, x0, x6 => if (x6.length : Int) = 0 then (frames_Join.j2 k x0 x6 true) else (if 0 < (x6.length : Int) then (frames_Join.j2 k x0 x6 ((x6.length : Int) != ((rd_T94 x6 0).f2))) else (none))
def frames_Join.j2 : Nat → List ByteArray → List (S94) → Bool → Option (Int × ByteArray × Int × Int)
  | 0, _, _, _ => none
  | k + 1, x0, x6, x59 => if x59 = true then (some (0, (⟨#[]⟩ : ByteArray), 0, 43)) else (frames_JoinH.f k x6 x0)
def frames_Join.l0 : Nat → List ByteArray → List (S94) → List ByteArray → Int → Int → Option (Int × ByteArray × Int × Int)
  | 0, _, _, _, _, _ => none
  | k + 1, x0, x6, x16, x17, x18 => if x18 < x17 then (if 0 ≤ x18 then (if x18 < (x16.length : Int) then ((frames_Tell.f k (rdOf ByteArray.empty x16 x18)).bind fun bt102 => (if bt102.2.2.2.2 = 0 then (if (x6.length : Int) > 0 then (if 0 < (x6.length : Int) then (if (x6.length : Int) = ((rd_T94 x6 0).f2) then (frames_Join.j1 k x0 x6) else (if x6.length < 3518437208883 then (frames_Join.l0 k x0 (x6 ++ [(⟨bt102.1, bt102.2.1, bt102.2.2.1, bt102.2.2.2.1⟩ : S94)]) x16 x17 (wrap64 (x18 + 1))) else (none))) else (none)) else (if x6.length < 3518437208883 then (frames_Join.l0 k x0 (x6 ++ [(⟨bt102.1, bt102.2.1, bt102.2.2.1, bt102.2.2.2.1⟩ : S94)]) x16 x17 (wrap64 (x18 + 1))) else (none))) else (frames_Join.j1 k x0 x6))) else (none)) else (none)) else (frames_Join.j1 k x0 x6)
end
def frames_Join.f (k : Nat) (l0 : List ByteArray) : Option (Int × ByteArray × Int × Int) := frames_Join.l0 k l0 ([] : List (S94)) l0 (l0.length : Int) 0
theorem frames_Join.mono_l : ∀ k, (∀ y0 y1, LeO (frames_Join.j1 k y0 y1) (frames_Join.j1 (k + 1) y0 y1)) ∧ (∀ y0 y1 y2, LeO (frames_Join.j2 k y0 y1 y2) (frames_Join.j2 (k + 1) y0 y1 y2)) ∧ (∀ y0 y1 y2 y3 y4, LeO (frames_Join.l0 k y0 y1 y2 y3 y4) (frames_Join.l0 (k + 1) y0 y1 y2 y3 y4))
  | 0 => ⟨fun _ _ r h => by simp [frames_Join.j1] at h, fun _ _ _ r h => by simp [frames_Join.j2] at h, fun _ _ _ _ _ r h => by simp [frames_Join.l0] at h⟩
  | k + 1 => by
    obtain ⟨ih0, ih1, ih2⟩ := frames_Join.mono_l k
    refine ⟨?_, ?_, ?_⟩
    · intro y0 y1
      unfold frames_Join.j1
      repeat' first
      | (with_reducible exact ih0 _ _)
      | (with_reducible exact ih1 _ _ _)
      | (with_reducible exact ih2 _ _ _ _ _)
      | (with_reducible exact frames_JoinH.mono _ _ _)
      | (with_reducible exact frames_Tell.mono _ _)
      | (with_reducible exact LeO.refl _)
      | (with_reducible exact LeO.none _)
      | (with_reducible refine LeO.ite ?_ ?_)
      | (with_reducible refine LeO.bind ?_ (fun _ => ?_))
      | exact ih0 _ _
      | exact ih1 _ _ _
      | exact ih2 _ _ _ _ _
      | exact frames_JoinH.mono _ _ _
      | exact frames_Tell.mono _ _
      | exact LeO.none _
      | refine LeO.ite ?_ ?_
      | refine LeO.bind ?_ (fun _ => ?_)
    · intro y0 y1 y2
      unfold frames_Join.j2
      repeat' first
      | (with_reducible exact ih0 _ _)
      | (with_reducible exact ih1 _ _ _)
      | (with_reducible exact ih2 _ _ _ _ _)
      | (with_reducible exact frames_JoinH.mono _ _ _)
      | (with_reducible exact frames_Tell.mono _ _)
      | (with_reducible exact LeO.refl _)
      | (with_reducible exact LeO.none _)
      | (with_reducible refine LeO.ite ?_ ?_)
      | (with_reducible refine LeO.bind ?_ (fun _ => ?_))
      | exact ih0 _ _
      | exact ih1 _ _ _
      | exact ih2 _ _ _ _ _
      | exact frames_JoinH.mono _ _ _
      | exact frames_Tell.mono _ _
      | exact LeO.none _
      | refine LeO.ite ?_ ?_
      | refine LeO.bind ?_ (fun _ => ?_)
    · intro y0 y1 y2 y3 y4
      unfold frames_Join.l0
      repeat' first
      | (with_reducible exact ih0 _ _)
      | (with_reducible exact ih1 _ _ _)
      | (with_reducible exact ih2 _ _ _ _ _)
      | (with_reducible exact frames_JoinH.mono _ _ _)
      | (with_reducible exact frames_Tell.mono _ _)
      | (with_reducible exact LeO.refl _)
      | (with_reducible exact LeO.none _)
      | (with_reducible refine LeO.ite ?_ ?_)
      | (with_reducible refine LeO.bind ?_ (fun _ => ?_))
      | exact ih0 _ _
      | exact ih1 _ _ _
      | exact ih2 _ _ _ _ _
      | exact frames_JoinH.mono _ _ _
      | exact frames_Tell.mono _ _
      | exact LeO.none _
      | refine LeO.ite ?_ ?_
      | refine LeO.bind ?_ (fun _ => ?_)
theorem frames_Join.mono : ∀ a0 k, LeO (frames_Join.f k a0) (frames_Join.f (k + 1) a0) := by
  intro a0 k
  obtain ⟨ih0, ih1, ih2⟩ := frames_Join.mono_l k
  unfold frames_Join.f
  repeat' first
      | (with_reducible exact ih0 _ _)
      | (with_reducible exact ih1 _ _ _)
      | (with_reducible exact ih2 _ _ _ _ _)
      | (with_reducible exact frames_JoinH.mono _ _ _)
      | (with_reducible exact frames_Tell.mono _ _)
      | (with_reducible exact LeO.refl _)
      | (with_reducible exact LeO.none _)
      | (with_reducible refine LeO.ite ?_ ?_)
      | (with_reducible refine LeO.bind ?_ (fun _ => ?_))
      | exact ih0 _ _
      | exact ih1 _ _ _
      | exact ih2 _ _ _ _ _
      | exact frames_JoinH.mono _ _ _
      | exact frames_Tell.mono _ _
      | exact LeO.none _
      | refine LeO.ite ?_ ?_
      | refine LeO.bind ?_ (fun _ => ?_)
set_option maxHeartbeats 8000000 in
set_option maxRecDepth 100000 in
theorem frames_Join.calls (k : Nat) (A0 : Option Addr) (c0 : Nat) (l0 : List ByteArray) (r1 : Int) (r2 : ByteArray) (r3 : Int) (r4 : Int) (w : World) (hr0 : Kd.C Kd.string w A0 l0.length l0) (hc0 : l0.length ≤ c0) (h : frames_Join.f k l0 = some (r1, r2, r3, r4)) :
    Calls Try.prog 47 #[.slice A0 l0.length c0] w fun e w' => e = .returned (.tuple #[.int .i64 r1, .string r2, .int .i64 r3, .int .i64 r4]) ∧ Below w.heap.size w w' := by
  have hu94 := Try.underlying94
  have HR0 := Aside0.mk hr0
  have HC0 := Aside0.mk hc0
  clear hr0 hc0
  have HB := Aside0.mk (Below.refl w.heap.size w)
  have H : (frames_Join.l0 k l0 ([] : List (S94)) l0 (l0.length : Int) 0) = some (r1, r2, r3, r4) := h
  clear h
  have HC2 := Aside0.mk H
  clear H
  go_enter Try.func47, Try.ntmps47
  go_upto_block 0 with (fail)
  go_cut [6] (fun v6 wc => ∃ (kq : Nat) (x6_1 : List (S94)), Aside0 (frames_Join.j1 kq l0 x6_1 = some (r1, r2, r3, r4)) ∧ Aside0 (kq ≤ k) ∧ Aside0 (Kd.R k94 94 wc w.heap.size (fun _ => True) v6 x6_1) ∧ Aside0 (Below w.heap.size w wc))
  case first =>
    have H := HC2.out
    clear HC2
    have H' := Aside0.mk H
    clear H
    go_wp2
    go_loopg [6, 18] k (fun kq v6 v18 w' => ∃ (x6_1 : List (S94)) (x18_1 : Int), v18 = .int .i64 x18_1 ∧ Aside0 (frames_Join.l0 kq l0 x6_1 l0 (l0.length : Int) x18_1 = some (r1, r2, r3, r4)) ∧ Aside0 (kq ≤ k) ∧ Aside0 (Kd.R k94 94 w' w.heap.size (fun _ => True) v6 x6_1) ∧ Aside0 (Below w.heap.size w w'))
    case atStart => exact ⟨(([] : List (S94))), (0), (by first | rfl | (simp; done) | (simp [*]; done)), H', ⟨Nat.le_refl _⟩, ⟨by first | exact Kd.R_nil _ _ _ _ _ | exact Kd.N_nil _ _ _ _ _ | exact Kd.V_nil _ _ _ _ _ | exact Kd.Q_nil _ _ _ _ _ | exact Kd.S_nil _ _ _ _ _⟩, ⟨by repeat (first | (with_reducible first | exact HB.out | apply below_alloc | apply pw_below_drewN | apply below_drew1) | exact HB.out)⟩⟩
    case round =>
      clear H'
      try clear p2
      obtain ⟨x6_1, x18_1, rfl, HA, HK1, HO_6, HB⟩ := hrel
      cases gk with
      | zero => exact absurd HA.out (by simp [frames_Join.l0])
      | succ k1 =>
        have H := HA.out
        clear HA
        simp only [frames_Join.l0] at H
        by_cases c3 : x18_1 < (l0.length : Int)
        · rw [if_pos c3] at H
          have c3b0 : decide (x18_1 < (l0.length : Int)) = true := decide_eq_true c3
          clear c3
          (first | rw [c3b0] | (simp only [i64_w, i32_w]; rw [c3b0]) | skip)
          by_cases c4 : 0 ≤ x18_1
          · rw [if_pos c4] at H
            have c4b0 : decide (0 ≤ x18_1) = true := decide_eq_true c4
            clear c4
            by_cases c5 : x18_1 < (l0.length : Int)
            · rw [if_pos c5] at H
              have c5b0 : decide (x18_1 < (l0.length : Int)) = true := decide_eq_true c5
              clear c5
              replace H := Option.bind_eq_some_iff.mp H
              obtain ⟨⟨t102, t103, t104, t105, t106⟩, A60, H⟩ := H
              replace H : (if t106 = 0 then (if (x6_1.length : Int) > 0 then (if 0 < (x6_1.length : Int) then (if (x6_1.length : Int) = ((rd_T94 x6_1 0).f2) then (frames_Join.j1 k1 l0 x6_1) else (if x6_1.length < 3518437208883 then (frames_Join.l0 k1 l0 (x6_1 ++ [(⟨t102, t103, t104, t105⟩ : S94)]) l0 (l0.length : Int) (wrap64 (x18_1 + 1))) else (none))) else (none)) else (if x6_1.length < 3518437208883 then (frames_Join.l0 k1 l0 (x6_1 ++ [(⟨t102, t103, t104, t105⟩ : S94)]) l0 (l0.length : Int) (wrap64 (x18_1 + 1))) else (none))) else (frames_Join.j1 k1 l0 x6_1)) = some (r1, r2, r3, r4) := H
              have A6 := Aside0.mk A60
              clear A60
              by_cases c7 : t106 = 0
              · rw [if_pos c7] at H
                have c7b0 : (t106 == 0) = true := beq_iff_eq.mpr c7
                have c7b1 : (t106 != 0) = false := bne_eq_false_iff_eq.mpr c7
                clear c7
                by_cases c8 : (x6_1.length : Int) > 0
                · rw [if_pos c8] at H
                  have c8b0 : decide (0 < (x6_1.length : Int)) = true := decide_eq_true c8
                  have c8b1 : decide (0 < x6_1.length) = true := decide_eq_true (by omega)
                  clear c8
                  by_cases c9 : 0 < (x6_1.length : Int)
                  · rw [if_pos c9] at H
                    have c9b0 : decide (0 < (x6_1.length : Int)) = true := decide_eq_true c9
                    have c9b1 : decide (0 < x6_1.length) = true := decide_eq_true (by omega)
                    clear c9
                    by_cases c10 : (x6_1.length : Int) = ((rd_T94 x6_1 0).f2)
                    · rw [if_pos c10] at H
                      have c10b0 : ((x6_1.length : Int) == ((rd_T94 x6_1 0).f2)) = true := beq_iff_eq.mpr c10
                      have c10b1 : ((x6_1.length : Int) != ((rd_T94 x6_1 0).f2)) = false := bne_eq_false_iff_eq.mpr c10
                      clear c10
                      have H' := Aside0.mk H
                      clear H
                      have p101 : 0 ≤ (x18_1 : Int) := of_decide_eq_true (by first | (with_reducible assumption) | assumption)
                      have q101 : x18_1 < (l0.length : Int) := of_decide_eq_true (by first | (with_reducible assumption) | assumption)
                      obtain ⟨ad101, e101, hx101_0⟩ := Kd.at_string HR0.out x18_1 p101 q101
                      cases e101
                      replace hx101_0 := (HB.out.cell (World.block_lt_of_cell? w _ hx101_0)).trans hx101_0
                      replace p101 := eq_true p101
                      replace q101 := eq_true q101
                      go_wp2_with (first | ((with_reducible refine gate_callee (f := 52) rfl ?_); refine goesL_ (some 24) rfl rfl Try.func52 (by kernel_rfl) rfl #[.string (rdOf ByteArray.empty l0 x18_1)] rfl (by (try simp only [List.map_toArray, List.map_cons, List.map_nil]); first | done | rfl | (simp only [List.length_drop, List.length_take]; rfl)) ?_; (with_reducible refine (frames_Tell.calls k1 (rdOf ByteArray.empty l0 x18_1) t102 t103 t104 t105 t106 _ A6.out).mono ?_); rintro e w11 ⟨rfl, hb⟩; refine ⟨_, rfl, ?_⟩; have n0_ := Aside0.mk (Kd.R_below (by (with_reducible repeat (first | apply Kd.R_alloc | apply Kd.R_drewN | apply Kd.R_drew)); exact HO_6.out) hb); have n1_ := Aside0.mk (below_step (by repeat (first | (with_reducible first | exact HB.out | apply below_alloc | apply pw_below_drewN | apply below_drew1) | exact HB.out)) hb); clear HO_6; clear HB; have HO_6 := n0_; have HB := n1_; clear n0_ n1_; (try clear hb); (try clear hb2); (try clear hk); (try clear hi)) | ((with_reducible refine gate_dst (N := 9) rfl ?_); (try (refine gate_guard (by rfl) ?_; dsimp only)); refine box_event ?hg (N := 9) ?hd (cs := #[.int .i64 0, .int .i64 0, .int .i64 0, .string (⟨#[]⟩ : ByteArray)]) (t := 94) ?hr ?_; (case hd => rfl); (case hg => rfl); (case hr => first | (go_simp; done) | (go_simp; rfl)); intro gb107 hg w12 hbox hb; have n0_ := Aside0.mk (Kd.R_below (Kd.R_elderB (by (with_reducible repeat (first | apply Kd.R_alloc | apply Kd.R_drewN | apply Kd.R_drew)); exact HO_6.out) gb107 (Nat.le_of_eq hg.symm)) hb); have n1_ := Aside0.mk (below_step (by repeat (first | (with_reducible first | exact HB.out | apply below_alloc | apply pw_below_drewN | apply below_drew1) | exact HB.out)) hb); have n2_ := Aside0.mk (hbox); have n3_ := Aside0.mk ((by rw [hg]; exact (below_size (by repeat (first | (with_reducible first | exact HB.out | apply below_alloc | apply pw_below_drewN | apply below_drew1) | exact HB.out))) : w.heap.size ≤ gb107)); have n4_ := Aside0.mk ((by rw [hg]; exact (below_size (by repeat (first | (with_reducible first | exact HB.out | apply below_alloc | apply pw_below_drewN | apply below_drew1) | exact HB.out))) : w.heap.size ≤ gb107)); clear HO_6; clear HB; have HO_6 := n0_; have HB := n1_; have BK107 := n2_; have GW107 := n3_; have GE107 := n4_; clear n0_ n1_ n2_ n3_ n4_; clear hb hbox hg; have hcz13_0 : w12.cell? ⟨gb107, 0, none⟩ = some (.int .i64 0) := (blk_cell BK107.out 0).trans rfl; have hcz13_1 : w12.cell? ⟨gb107, 1, none⟩ = some (.int .i64 0) := (blk_cell BK107.out 1).trans rfl; have hcz13_2 : w12.cell? ⟨gb107, 2, none⟩ = some (.int .i64 0) := (blk_cell BK107.out 2).trans rfl; have hcz13_3 : w12.cell? ⟨gb107, 3, none⟩ = some (.string (⟨#[]⟩ : ByteArray)) := (blk_cell BK107.out 3).trans rfl; have hfz13_0 := blk_frozen BK107.out 0; have hfz13_1 := blk_frozen BK107.out 1; have hfz13_2 := blk_frozen BK107.out 2; have hfz13_3 := blk_frozen BK107.out 3; obtain ⟨Ao14, co14, eo14⟩ := Kd.R_slice HO_6.out; subst eo14; have p108 : 0 ≤ (0 : Int) := (by omega); have q108 : 0 < (x6_1.length : Int) := of_decide_eq_true (by first | (with_reducible assumption) | assumption); obtain ⟨ad108, e108, hx108_0, hx108_1, hx108_2, hx108_3⟩ := at_T94 (Kd.R_reads' HO_6.out).2.2 0 p108 q108; cases e108; have qi108 : (0 < x6_1.length) = True := eq_true (by omega); (try rw [show ((0 : Int)).toNat = 0 from rfl] at hx108_0); (try rw [show 0 * 4 = 0 from rfl] at hx108_0); (try rw [Addr.add_zero'] at hx108_0); (try rw [show ((0 : Int)).toNat = 0 from rfl] at hx108_1); (try rw [show 0 * 4 = 0 from rfl] at hx108_1); (try rw [Addr.add_zero'] at hx108_1); (try rw [show ((0 : Int)).toNat = 0 from rfl] at hx108_2); (try rw [show 0 * 4 = 0 from rfl] at hx108_2); (try rw [Addr.add_zero'] at hx108_2); (try rw [show ((0 : Int)).toNat = 0 from rfl] at hx108_3); (try rw [show 0 * 4 = 0 from rfl] at hx108_3); (try rw [Addr.add_zero'] at hx108_3); have hn108_0 : ad108.block ≠ gb107 := Kd.own_blk (by first | exact Kd.R_away HO_6.out (fun _ hk => hk.2) | exact Kd.R_ne HO_6.out BK107.out (by decide)); have hn108_1 : ad108.block ≠ gb107 := Kd.own_blk (by first | exact Kd.R_away HO_6.out (fun _ hk => hk.2) | exact Kd.R_ne HO_6.out BK107.out (by decide)); have hn108_2 : ad108.block ≠ gb107 := Kd.own_blk (by first | exact Kd.R_away HO_6.out (fun _ hk => hk.2) | exact Kd.R_ne HO_6.out BK107.out (by decide)); have hn108_3 : ad108.block ≠ gb107 := Kd.own_blk (by first | exact Kd.R_away HO_6.out (fun _ hk => hk.2) | exact Kd.R_ne HO_6.out BK107.out (by decide)); replace hx108_0 := (cell_far (p := ⟨gb107, 0, none⟩) (by first | (rw [add_block]; exact hn108_0) | (show (Addr.add _ _).block ≠ _; rw [add_block]; exact hn108_0) | exact hn108_0) (.int .i64 t102)).trans hx108_0; replace hx108_1 := (cell_far (p := ⟨gb107, 0, none⟩) (by first | (rw [add_block]; exact hn108_0) | (show (Addr.add _ _).block ≠ _; rw [add_block]; exact hn108_0) | exact hn108_0) (.int .i64 t102)).trans hx108_1; replace hx108_2 := (cell_far (p := ⟨gb107, 0, none⟩) (by first | (rw [add_block]; exact hn108_0) | (show (Addr.add _ _).block ≠ _; rw [add_block]; exact hn108_0) | exact hn108_0) (.int .i64 t102)).trans hx108_2; replace hx108_3 := (cell_far (p := ⟨gb107, 0, none⟩) (by first | (rw [add_block]; exact hn108_0) | (show (Addr.add _ _).block ≠ _; rw [add_block]; exact hn108_0) | exact hn108_0) (.int .i64 t102)).trans hx108_3; replace hx108_0 := (cell_far (p := ⟨gb107, 1, none⟩) (by first | (rw [add_block]; exact hn108_1) | (show (Addr.add _ _).block ≠ _; rw [add_block]; exact hn108_1) | exact hn108_1) (.int .i64 t103)).trans hx108_0; replace hx108_1 := (cell_far (p := ⟨gb107, 1, none⟩) (by first | (rw [add_block]; exact hn108_1) | (show (Addr.add _ _).block ≠ _; rw [add_block]; exact hn108_1) | exact hn108_1) (.int .i64 t103)).trans hx108_1; replace hx108_2 := (cell_far (p := ⟨gb107, 1, none⟩) (by first | (rw [add_block]; exact hn108_1) | (show (Addr.add _ _).block ≠ _; rw [add_block]; exact hn108_1) | exact hn108_1) (.int .i64 t103)).trans hx108_2; replace hx108_3 := (cell_far (p := ⟨gb107, 1, none⟩) (by first | (rw [add_block]; exact hn108_1) | (show (Addr.add _ _).block ≠ _; rw [add_block]; exact hn108_1) | exact hn108_1) (.int .i64 t103)).trans hx108_3; replace hx108_0 := (cell_far (p := ⟨gb107, 2, none⟩) (by first | (rw [add_block]; exact hn108_2) | (show (Addr.add _ _).block ≠ _; rw [add_block]; exact hn108_2) | exact hn108_2) (.int .i64 t104)).trans hx108_0; replace hx108_1 := (cell_far (p := ⟨gb107, 2, none⟩) (by first | (rw [add_block]; exact hn108_2) | (show (Addr.add _ _).block ≠ _; rw [add_block]; exact hn108_2) | exact hn108_2) (.int .i64 t104)).trans hx108_1; replace hx108_2 := (cell_far (p := ⟨gb107, 2, none⟩) (by first | (rw [add_block]; exact hn108_2) | (show (Addr.add _ _).block ≠ _; rw [add_block]; exact hn108_2) | exact hn108_2) (.int .i64 t104)).trans hx108_2; replace hx108_3 := (cell_far (p := ⟨gb107, 2, none⟩) (by first | (rw [add_block]; exact hn108_2) | (show (Addr.add _ _).block ≠ _; rw [add_block]; exact hn108_2) | exact hn108_2) (.int .i64 t104)).trans hx108_3; replace hx108_0 := (cell_far (p := ⟨gb107, 3, none⟩) (by first | (rw [add_block]; exact hn108_3) | (show (Addr.add _ _).block ≠ _; rw [add_block]; exact hn108_3) | exact hn108_3) (.string t105)).trans hx108_0; replace hx108_1 := (cell_far (p := ⟨gb107, 3, none⟩) (by first | (rw [add_block]; exact hn108_3) | (show (Addr.add _ _).block ≠ _; rw [add_block]; exact hn108_3) | exact hn108_3) (.string t105)).trans hx108_1; replace hx108_2 := (cell_far (p := ⟨gb107, 3, none⟩) (by first | (rw [add_block]; exact hn108_3) | (show (Addr.add _ _).block ≠ _; rw [add_block]; exact hn108_3) | exact hn108_3) (.string t105)).trans hx108_2; replace hx108_3 := (cell_far (p := ⟨gb107, 3, none⟩) (by first | (rw [add_block]; exact hn108_3) | (show (Addr.add _ _).block ≠ _; rw [add_block]; exact hn108_3) | exact hn108_3) (.string t105)).trans hx108_3; clear hn108_0; clear hn108_1; clear hn108_2; clear hn108_3; replace p108 := eq_true p108; replace q108 := eq_true q108))
                      go_meet
                      case rel => exact ⟨_, (x6_1), H', ⟨by have := HK1.out; first | omega | exact Nat.le_refl _⟩, ⟨by (with_reducible repeat (first | apply Kd.R_alloc | apply Kd.R_drewN | apply Kd.R_drew)); exact Kd.R_mono (Kd.R_far (p := ⟨gb107, 3, none⟩) (Kd.R_far (p := ⟨gb107, 2, none⟩) (Kd.R_far (p := ⟨gb107, 1, none⟩) (Kd.R_far (p := ⟨gb107, 0, none⟩) (Kd.R_mono HO_6.out (fun k_ hk => (⟨hk, hk.2⟩ : _ ∧ k_ ≠ gb107))) (fun _ hk => hk.2) (.int .i64 t102)) (fun _ hk => hk.2) (.int .i64 t103)) (fun _ hk => hk.2) (.int .i64 t104)) (fun _ hk => hk.2) (.string t105)) (fun _ hk => trivial)⟩, ⟨by repeat (first | (with_reducible first | exact HB.out | apply below_alloc | apply pw_below_drewN | apply below_drew1 | refine below_set ?_ GE107.out) | exact HB.out)⟩⟩
                    · rw [if_neg c10] at H
                      have c10b0 : ((x6_1.length : Int) == ((rd_T94 x6_1 0).f2)) = false := beq_eq_false_iff_ne.mpr c10
                      have c10b1 : ((x6_1.length : Int) != ((rd_T94 x6_1 0).f2)) = true := bne_iff_ne.mpr c10
                      by_cases c15 : x6_1.length < 3518437208883
                      · rw [if_pos c15] at H
                        have LMc15 := Aside0.mk c15
                        clear c15
                        obtain ⟨y109, hy109⟩ : ∃ y_ : List (S94), y_ = (x6_1 ++ [(⟨t102, t103, t104, t105⟩ : S94)]) := ⟨_, rfl⟩
                        replace H : (frames_Join.l0 k1 l0 y109 l0 (l0.length : Int) (wrap64 (x18_1 + 1))) = some (r1, r2, r3, r4) := by first | (rw [hy109]; with_reducible exact H) | (have H2_ := (Option.bind_some _ _).symm.trans H; rw [hy109]; with_reducible exact H2_) | (have H2_ := (Option.bind_some _ _).symm.trans H; with_reducible exact H2_) | with_reducible exact H | (rw [hy109]; exact H) | exact H
                        have Ny109 := Aside0.mk hy109
                        clear hy109
                        have H' := Aside0.mk H
                        clear H
                        have p101 : 0 ≤ (x18_1 : Int) := of_decide_eq_true (by first | (with_reducible assumption) | assumption)
                        have q101 : x18_1 < (l0.length : Int) := of_decide_eq_true (by first | (with_reducible assumption) | assumption)
                        obtain ⟨ad101, e101, hx101_0⟩ := Kd.at_string HR0.out x18_1 p101 q101
                        cases e101
                        replace hx101_0 := (HB.out.cell (World.block_lt_of_cell? w _ hx101_0)).trans hx101_0
                        replace p101 := eq_true p101
                        replace q101 := eq_true q101
                        go_wp2_with (first | ((with_reducible refine gate_callee (f := 52) rfl ?_); refine goesL_ (some 24) rfl rfl Try.func52 (by kernel_rfl) rfl #[.string (rdOf ByteArray.empty l0 x18_1)] rfl (by (try simp only [List.map_toArray, List.map_cons, List.map_nil]); first | done | rfl | (simp only [List.length_drop, List.length_take]; rfl)) ?_; (with_reducible refine (frames_Tell.calls k1 (rdOf ByteArray.empty l0 x18_1) t102 t103 t104 t105 t106 _ A6.out).mono ?_); rintro e w16 ⟨rfl, hb⟩; refine ⟨_, rfl, ?_⟩; have n0_ := Aside0.mk (Kd.R_below (by (with_reducible repeat (first | apply Kd.R_alloc | apply Kd.R_drewN | apply Kd.R_drew)); exact HO_6.out) hb); have n1_ := Aside0.mk (below_step (by repeat (first | (with_reducible first | exact HB.out | apply below_alloc | apply pw_below_drewN | apply below_drew1) | exact HB.out)) hb); clear HO_6; clear HB; have HO_6 := n0_; have HB := n1_; clear n0_ n1_; (try clear hb); (try clear hb2); (try clear hk); (try clear hi)) | ((with_reducible refine gate_dst (N := 9) rfl ?_); (try (refine gate_guard (by rfl) ?_; dsimp only)); refine box_event ?hg (N := 9) ?hd (cs := #[.int .i64 0, .int .i64 0, .int .i64 0, .string (⟨#[]⟩ : ByteArray)]) (t := 94) ?hr ?_; (case hd => rfl); (case hg => rfl); (case hr => first | (go_simp; done) | (go_simp; rfl)); intro gb107 hg w17 hbox hb; have n0_ := Aside0.mk (Kd.R_below (Kd.R_elderB (by (with_reducible repeat (first | apply Kd.R_alloc | apply Kd.R_drewN | apply Kd.R_drew)); exact HO_6.out) gb107 (Nat.le_of_eq hg.symm)) hb); have n1_ := Aside0.mk (below_step (by repeat (first | (with_reducible first | exact HB.out | apply below_alloc | apply pw_below_drewN | apply below_drew1) | exact HB.out)) hb); have n2_ := Aside0.mk (hbox); have n3_ := Aside0.mk ((by rw [hg]; exact (below_size (by repeat (first | (with_reducible first | exact HB.out | apply below_alloc | apply pw_below_drewN | apply below_drew1) | exact HB.out))) : w.heap.size ≤ gb107)); have n4_ := Aside0.mk ((by rw [hg]; exact (below_size (by repeat (first | (with_reducible first | exact HB.out | apply below_alloc | apply pw_below_drewN | apply below_drew1) | exact HB.out))) : w.heap.size ≤ gb107)); clear HO_6; clear HB; have HO_6 := n0_; have HB := n1_; have BK107 := n2_; have GW107 := n3_; have GE107 := n4_; clear n0_ n1_ n2_ n3_ n4_; clear hb hbox hg; have hcz18_0 : w17.cell? ⟨gb107, 0, none⟩ = some (.int .i64 0) := (blk_cell BK107.out 0).trans rfl; have hcz18_1 : w17.cell? ⟨gb107, 1, none⟩ = some (.int .i64 0) := (blk_cell BK107.out 1).trans rfl; have hcz18_2 : w17.cell? ⟨gb107, 2, none⟩ = some (.int .i64 0) := (blk_cell BK107.out 2).trans rfl; have hcz18_3 : w17.cell? ⟨gb107, 3, none⟩ = some (.string (⟨#[]⟩ : ByteArray)) := (blk_cell BK107.out 3).trans rfl; have hfz18_0 := blk_frozen BK107.out 0; have hfz18_1 := blk_frozen BK107.out 1; have hfz18_2 := blk_frozen BK107.out 2; have hfz18_3 := blk_frozen BK107.out 3; obtain ⟨Ao19, co19, eo19⟩ := Kd.R_slice HO_6.out; subst eo19; have p108 : 0 ≤ (0 : Int) := (by omega); have q108 : 0 < (x6_1.length : Int) := of_decide_eq_true (by first | (with_reducible assumption) | assumption); obtain ⟨ad108, e108, hx108_0, hx108_1, hx108_2, hx108_3⟩ := at_T94 (Kd.R_reads' HO_6.out).2.2 0 p108 q108; cases e108; have qi108 : (0 < x6_1.length) = True := eq_true (by omega); (try rw [show ((0 : Int)).toNat = 0 from rfl] at hx108_0); (try rw [show 0 * 4 = 0 from rfl] at hx108_0); (try rw [Addr.add_zero'] at hx108_0); (try rw [show ((0 : Int)).toNat = 0 from rfl] at hx108_1); (try rw [show 0 * 4 = 0 from rfl] at hx108_1); (try rw [Addr.add_zero'] at hx108_1); (try rw [show ((0 : Int)).toNat = 0 from rfl] at hx108_2); (try rw [show 0 * 4 = 0 from rfl] at hx108_2); (try rw [Addr.add_zero'] at hx108_2); (try rw [show ((0 : Int)).toNat = 0 from rfl] at hx108_3); (try rw [show 0 * 4 = 0 from rfl] at hx108_3); (try rw [Addr.add_zero'] at hx108_3); have hn108_0 : ad108.block ≠ gb107 := Kd.own_blk (by first | exact Kd.R_away HO_6.out (fun _ hk => hk.2) | exact Kd.R_ne HO_6.out BK107.out (by decide)); have hn108_1 : ad108.block ≠ gb107 := Kd.own_blk (by first | exact Kd.R_away HO_6.out (fun _ hk => hk.2) | exact Kd.R_ne HO_6.out BK107.out (by decide)); have hn108_2 : ad108.block ≠ gb107 := Kd.own_blk (by first | exact Kd.R_away HO_6.out (fun _ hk => hk.2) | exact Kd.R_ne HO_6.out BK107.out (by decide)); have hn108_3 : ad108.block ≠ gb107 := Kd.own_blk (by first | exact Kd.R_away HO_6.out (fun _ hk => hk.2) | exact Kd.R_ne HO_6.out BK107.out (by decide)); replace hx108_0 := (cell_far (p := ⟨gb107, 0, none⟩) (by first | (rw [add_block]; exact hn108_0) | (show (Addr.add _ _).block ≠ _; rw [add_block]; exact hn108_0) | exact hn108_0) (.int .i64 t102)).trans hx108_0; replace hx108_1 := (cell_far (p := ⟨gb107, 0, none⟩) (by first | (rw [add_block]; exact hn108_0) | (show (Addr.add _ _).block ≠ _; rw [add_block]; exact hn108_0) | exact hn108_0) (.int .i64 t102)).trans hx108_1; replace hx108_2 := (cell_far (p := ⟨gb107, 0, none⟩) (by first | (rw [add_block]; exact hn108_0) | (show (Addr.add _ _).block ≠ _; rw [add_block]; exact hn108_0) | exact hn108_0) (.int .i64 t102)).trans hx108_2; replace hx108_3 := (cell_far (p := ⟨gb107, 0, none⟩) (by first | (rw [add_block]; exact hn108_0) | (show (Addr.add _ _).block ≠ _; rw [add_block]; exact hn108_0) | exact hn108_0) (.int .i64 t102)).trans hx108_3; replace hx108_0 := (cell_far (p := ⟨gb107, 1, none⟩) (by first | (rw [add_block]; exact hn108_1) | (show (Addr.add _ _).block ≠ _; rw [add_block]; exact hn108_1) | exact hn108_1) (.int .i64 t103)).trans hx108_0; replace hx108_1 := (cell_far (p := ⟨gb107, 1, none⟩) (by first | (rw [add_block]; exact hn108_1) | (show (Addr.add _ _).block ≠ _; rw [add_block]; exact hn108_1) | exact hn108_1) (.int .i64 t103)).trans hx108_1; replace hx108_2 := (cell_far (p := ⟨gb107, 1, none⟩) (by first | (rw [add_block]; exact hn108_1) | (show (Addr.add _ _).block ≠ _; rw [add_block]; exact hn108_1) | exact hn108_1) (.int .i64 t103)).trans hx108_2; replace hx108_3 := (cell_far (p := ⟨gb107, 1, none⟩) (by first | (rw [add_block]; exact hn108_1) | (show (Addr.add _ _).block ≠ _; rw [add_block]; exact hn108_1) | exact hn108_1) (.int .i64 t103)).trans hx108_3; replace hx108_0 := (cell_far (p := ⟨gb107, 2, none⟩) (by first | (rw [add_block]; exact hn108_2) | (show (Addr.add _ _).block ≠ _; rw [add_block]; exact hn108_2) | exact hn108_2) (.int .i64 t104)).trans hx108_0; replace hx108_1 := (cell_far (p := ⟨gb107, 2, none⟩) (by first | (rw [add_block]; exact hn108_2) | (show (Addr.add _ _).block ≠ _; rw [add_block]; exact hn108_2) | exact hn108_2) (.int .i64 t104)).trans hx108_1; replace hx108_2 := (cell_far (p := ⟨gb107, 2, none⟩) (by first | (rw [add_block]; exact hn108_2) | (show (Addr.add _ _).block ≠ _; rw [add_block]; exact hn108_2) | exact hn108_2) (.int .i64 t104)).trans hx108_2; replace hx108_3 := (cell_far (p := ⟨gb107, 2, none⟩) (by first | (rw [add_block]; exact hn108_2) | (show (Addr.add _ _).block ≠ _; rw [add_block]; exact hn108_2) | exact hn108_2) (.int .i64 t104)).trans hx108_3; replace hx108_0 := (cell_far (p := ⟨gb107, 3, none⟩) (by first | (rw [add_block]; exact hn108_3) | (show (Addr.add _ _).block ≠ _; rw [add_block]; exact hn108_3) | exact hn108_3) (.string t105)).trans hx108_0; replace hx108_1 := (cell_far (p := ⟨gb107, 3, none⟩) (by first | (rw [add_block]; exact hn108_3) | (show (Addr.add _ _).block ≠ _; rw [add_block]; exact hn108_3) | exact hn108_3) (.string t105)).trans hx108_1; replace hx108_2 := (cell_far (p := ⟨gb107, 3, none⟩) (by first | (rw [add_block]; exact hn108_3) | (show (Addr.add _ _).block ≠ _; rw [add_block]; exact hn108_3) | exact hn108_3) (.string t105)).trans hx108_2; replace hx108_3 := (cell_far (p := ⟨gb107, 3, none⟩) (by first | (rw [add_block]; exact hn108_3) | (show (Addr.add _ _).block ≠ _; rw [add_block]; exact hn108_3) | exact hn108_3) (.string t105)).trans hx108_3; clear hn108_0; clear hn108_1; clear hn108_2; clear hn108_3; replace p108 := eq_true p108; replace q108 := eq_true q108) | ((with_reducible refine gate_builtin (b := .append) (xs := #[.tmp 43, .tmp 45]) rfl ?_); (try (refine gate_guard (by rfl) ?_; dsimp only)); at_builtin; refine Kd.R_append k94 (w0 := w) w.heap.size rfl (.tmp 43) (.tmp 45) 92 94 (.agg #[(.int .i64 0), (.int .i64 0), (.int .i64 0), (.string ⟨#[]⟩)]) 40 rfl Try.underlying92 info94 rfl (by decide) (by omega) (.slice (some ad108) x6_1.length co19) x6_1 (⟨t102, t103, t104, t105⟩ : S94) [.int .i64 t102, .int .i64 t103, .int .i64 t104, .string t105] (fun k_ => k_ ≠ gb107) (fun _ => False) rfl (by first | (go_simp; done) | (go_simp; rfl)) ?aP (fun _ hk => hk.elim) ?aF ?aO ?aB ?aS ?aL ?_; (case aP => exact k94_mkM _ _ _ (⟨t102, t103, t104, t105⟩ : S94)); (case aB => exact (by repeat (first | (with_reducible first | exact HB.out | apply below_alloc | apply pw_below_drewN | apply below_drew1 | refine below_set ?_ GE107.out) | exact HB.out))); (case aF => exact (fun k_ hk => Kd.freshB (g := gb107) (o := .cells #[.int .i64 t102, .int .i64 t103, .int .i64 t104, .string t105] 94 (0, 0)) (by (with_reducible repeat (first | refine blk_drewN ?_ _ | refine blk_drew ?_ | refine blk_alloc ?_ _)); refine blk_put (cs := #[.int .i64 t102, .int .i64 t103, .int .i64 t104, .string (⟨#[]⟩ : ByteArray)]) ?_ 3 _ rfl; (with_reducible repeat (first | refine blk_drewN ?_ _ | refine blk_drew ?_ | refine blk_alloc ?_ _)); refine blk_put (cs := #[.int .i64 t102, .int .i64 t103, .int .i64 0, .string (⟨#[]⟩ : ByteArray)]) ?_ 2 _ rfl; (with_reducible repeat (first | refine blk_drewN ?_ _ | refine blk_drew ?_ | refine blk_alloc ?_ _)); refine blk_put (cs := #[.int .i64 t102, .int .i64 0, .int .i64 0, .string (⟨#[]⟩ : ByteArray)]) ?_ 1 _ rfl; (with_reducible repeat (first | refine blk_drewN ?_ _ | refine blk_drew ?_ | refine blk_alloc ?_ _)); refine blk_put (cs := #[.int .i64 0, .int .i64 0, .int .i64 0, .string (⟨#[]⟩ : ByteArray)]) ?_ 0 _ rfl; (with_reducible repeat (first | refine blk_drewN ?_ _ | refine blk_drew ?_ | refine blk_alloc ?_ _)); exact BK107.out) k_ hk)); (case aO => exact (by (with_reducible repeat (first | apply Kd.R_alloc | apply Kd.R_drewN | apply Kd.R_drew)); exact Kd.R_mono (Kd.R_far (p := ⟨gb107, 3, none⟩) (Kd.R_far (p := ⟨gb107, 2, none⟩) (Kd.R_far (p := ⟨gb107, 1, none⟩) (Kd.R_far (p := ⟨gb107, 0, none⟩) (Kd.R_mono HO_6.out (fun k_ hk => (⟨hk, hk.2⟩ : _ ∧ k_ ≠ gb107))) (fun _ hk => hk.2) (.int .i64 t102)) (fun _ hk => hk.2) (.int .i64 t103)) (fun _ hk => hk.2) (.int .i64 t104)) (fun _ hk => hk.2) (.string t105)) (fun _ hk => hk.1.2))); (case aS => exact (below_size (by repeat (first | (with_reducible first | exact HB.out | apply below_alloc | apply pw_below_drewN | apply below_drew1 | refine below_set ?_ GE107.out) | exact HB.out)))); (case aL => have := LMc15.out; omega); intro v110 w20 ho hb hg hat; rw [← Ny109.out] at ho; have n0_ := Aside0.mk (blk_grown (g := gb107) (o := .cells #[.int .i64 t102, .int .i64 t103, .int .i64 t104, .string t105] 94 (0, 0)) (by (with_reducible repeat (first | refine blk_drewN ?_ _ | refine blk_drew ?_ | refine blk_alloc ?_ _)); refine blk_put (cs := #[.int .i64 t102, .int .i64 t103, .int .i64 t104, .string (⟨#[]⟩ : ByteArray)]) ?_ 3 _ rfl; (with_reducible repeat (first | refine blk_drewN ?_ _ | refine blk_drew ?_ | refine blk_alloc ?_ _)); refine blk_put (cs := #[.int .i64 t102, .int .i64 t103, .int .i64 0, .string (⟨#[]⟩ : ByteArray)]) ?_ 2 _ rfl; (with_reducible repeat (first | refine blk_drewN ?_ _ | refine blk_drew ?_ | refine blk_alloc ?_ _)); refine blk_put (cs := #[.int .i64 t102, .int .i64 0, .int .i64 0, .string (⟨#[]⟩ : ByteArray)]) ?_ 1 _ rfl; (with_reducible repeat (first | refine blk_drewN ?_ _ | refine blk_drew ?_ | refine blk_alloc ?_ _)); refine blk_put (cs := #[.int .i64 0, .int .i64 0, .int .i64 0, .string (⟨#[]⟩ : ByteArray)]) ?_ 0 _ rfl; (with_reducible repeat (first | refine blk_drewN ?_ _ | refine blk_drew ?_ | refine blk_alloc ?_ _)); exact BK107.out) hg (Kd.R_away HO_6.out (fun _ hk => hk.2))); have n1_ := Aside0.mk (hb); have n2_ := Aside0.mk (ho); clear BK107; clear HB; clear HO_6; have BK107 := n0_; have HB := n1_; have HO111 := n2_; clear n0_ n1_ n2_; clear ho hb hg hat))
                        go_roundg k1
                        case measure => have := HK1.out; omega
                        case rel => exact ⟨(y109), (wrap64 (x18_1 + 1)), (by first | rfl | (simp; done) | (simp [*]; done)), H', ⟨by have := HK1.out; omega⟩, ⟨by (with_reducible repeat (first | apply Kd.R_alloc | apply Kd.R_drewN | apply Kd.R_drew)); exact Kd.R_mono HO111.out (fun _ hk => trivial)⟩, ⟨by repeat (first | (with_reducible first | exact HB.out | apply below_alloc | apply pw_below_drewN | apply below_drew1 | refine below_set ?_ GE107.out) | exact HB.out)⟩⟩
                      · rw [if_neg c15] at H
                        exact absurd H (by simp)
                  · rw [if_neg c9] at H
                    exact absurd H (by simp)
                · rw [if_neg c8] at H
                  have c8b0 : decide (0 < (x6_1.length : Int)) = false := decide_eq_false c8
                  have c8b1 : decide (0 < x6_1.length) = false := decide_eq_false (by omega)
                  clear c8
                  by_cases c21 : x6_1.length < 3518437208883
                  · rw [if_pos c21] at H
                    have LMc21 := Aside0.mk c21
                    clear c21
                    obtain ⟨y112, hy112⟩ : ∃ y_ : List (S94), y_ = (x6_1 ++ [(⟨t102, t103, t104, t105⟩ : S94)]) := ⟨_, rfl⟩
                    replace H : (frames_Join.l0 k1 l0 y112 l0 (l0.length : Int) (wrap64 (x18_1 + 1))) = some (r1, r2, r3, r4) := by first | (rw [hy112]; with_reducible exact H) | (have H2_ := (Option.bind_some _ _).symm.trans H; rw [hy112]; with_reducible exact H2_) | (have H2_ := (Option.bind_some _ _).symm.trans H; with_reducible exact H2_) | with_reducible exact H | (rw [hy112]; exact H) | exact H
                    have Ny112 := Aside0.mk hy112
                    clear hy112
                    have H' := Aside0.mk H
                    clear H
                    have p101 : 0 ≤ (x18_1 : Int) := of_decide_eq_true (by first | (with_reducible assumption) | assumption)
                    have q101 : x18_1 < (l0.length : Int) := of_decide_eq_true (by first | (with_reducible assumption) | assumption)
                    obtain ⟨ad101, e101, hx101_0⟩ := Kd.at_string HR0.out x18_1 p101 q101
                    cases e101
                    replace hx101_0 := (HB.out.cell (World.block_lt_of_cell? w _ hx101_0)).trans hx101_0
                    replace p101 := eq_true p101
                    replace q101 := eq_true q101
                    go_wp2_with (first | ((with_reducible refine gate_callee (f := 52) rfl ?_); refine goesL_ (some 24) rfl rfl Try.func52 (by kernel_rfl) rfl #[.string (rdOf ByteArray.empty l0 x18_1)] rfl (by (try simp only [List.map_toArray, List.map_cons, List.map_nil]); first | done | rfl | (simp only [List.length_drop, List.length_take]; rfl)) ?_; (with_reducible refine (frames_Tell.calls k1 (rdOf ByteArray.empty l0 x18_1) t102 t103 t104 t105 t106 _ A6.out).mono ?_); rintro e w22 ⟨rfl, hb⟩; refine ⟨_, rfl, ?_⟩; have n0_ := Aside0.mk (Kd.R_below (by (with_reducible repeat (first | apply Kd.R_alloc | apply Kd.R_drewN | apply Kd.R_drew)); exact HO_6.out) hb); have n1_ := Aside0.mk (below_step (by repeat (first | (with_reducible first | exact HB.out | apply below_alloc | apply pw_below_drewN | apply below_drew1) | exact HB.out)) hb); clear HO_6; clear HB; have HO_6 := n0_; have HB := n1_; clear n0_ n1_; (try clear hb); (try clear hb2); (try clear hk); (try clear hi)) | ((with_reducible refine gate_dst (N := 9) rfl ?_); (try (refine gate_guard (by rfl) ?_; dsimp only)); refine box_event ?hg (N := 9) ?hd (cs := #[.int .i64 0, .int .i64 0, .int .i64 0, .string (⟨#[]⟩ : ByteArray)]) (t := 94) ?hr ?_; (case hd => rfl); (case hg => rfl); (case hr => first | (go_simp; done) | (go_simp; rfl)); intro gb107 hg w23 hbox hb; have n0_ := Aside0.mk (Kd.R_below (Kd.R_elderB (by (with_reducible repeat (first | apply Kd.R_alloc | apply Kd.R_drewN | apply Kd.R_drew)); exact HO_6.out) gb107 (Nat.le_of_eq hg.symm)) hb); have n1_ := Aside0.mk (below_step (by repeat (first | (with_reducible first | exact HB.out | apply below_alloc | apply pw_below_drewN | apply below_drew1) | exact HB.out)) hb); have n2_ := Aside0.mk (hbox); have n3_ := Aside0.mk ((by rw [hg]; exact (below_size (by repeat (first | (with_reducible first | exact HB.out | apply below_alloc | apply pw_below_drewN | apply below_drew1) | exact HB.out))) : w.heap.size ≤ gb107)); have n4_ := Aside0.mk ((by rw [hg]; exact (below_size (by repeat (first | (with_reducible first | exact HB.out | apply below_alloc | apply pw_below_drewN | apply below_drew1) | exact HB.out))) : w.heap.size ≤ gb107)); clear HO_6; clear HB; have HO_6 := n0_; have HB := n1_; have BK107 := n2_; have GW107 := n3_; have GE107 := n4_; clear n0_ n1_ n2_ n3_ n4_; clear hb hbox hg; have hcz24_0 : w23.cell? ⟨gb107, 0, none⟩ = some (.int .i64 0) := (blk_cell BK107.out 0).trans rfl; have hcz24_1 : w23.cell? ⟨gb107, 1, none⟩ = some (.int .i64 0) := (blk_cell BK107.out 1).trans rfl; have hcz24_2 : w23.cell? ⟨gb107, 2, none⟩ = some (.int .i64 0) := (blk_cell BK107.out 2).trans rfl; have hcz24_3 : w23.cell? ⟨gb107, 3, none⟩ = some (.string (⟨#[]⟩ : ByteArray)) := (blk_cell BK107.out 3).trans rfl; have hfz24_0 := blk_frozen BK107.out 0; have hfz24_1 := blk_frozen BK107.out 1; have hfz24_2 := blk_frozen BK107.out 2; have hfz24_3 := blk_frozen BK107.out 3; obtain ⟨Ao25, co25, eo25⟩ := Kd.R_slice HO_6.out; subst eo25) | ((with_reducible refine gate_builtin (b := .append) (xs := #[.tmp 43, .tmp 45]) rfl ?_); (try (refine gate_guard (by rfl) ?_; dsimp only)); at_builtin; refine Kd.R_append k94 (w0 := w) w.heap.size rfl (.tmp 43) (.tmp 45) 92 94 (.agg #[(.int .i64 0), (.int .i64 0), (.int .i64 0), (.string ⟨#[]⟩)]) 40 rfl Try.underlying92 info94 rfl (by decide) (by omega) (.slice Ao25 x6_1.length co25) x6_1 (⟨t102, t103, t104, t105⟩ : S94) [.int .i64 t102, .int .i64 t103, .int .i64 t104, .string t105] (fun k_ => k_ ≠ gb107) (fun _ => False) rfl (by first | (go_simp; done) | (go_simp; rfl)) ?aP (fun _ hk => hk.elim) ?aF ?aO ?aB ?aS ?aL ?_; (case aP => exact k94_mkM _ _ _ (⟨t102, t103, t104, t105⟩ : S94)); (case aB => exact (by repeat (first | (with_reducible first | exact HB.out | apply below_alloc | apply pw_below_drewN | apply below_drew1 | refine below_set ?_ GE107.out) | exact HB.out))); (case aF => exact (fun k_ hk => Kd.freshB (g := gb107) (o := .cells #[.int .i64 t102, .int .i64 t103, .int .i64 t104, .string t105] 94 (0, 0)) (by (with_reducible repeat (first | refine blk_drewN ?_ _ | refine blk_drew ?_ | refine blk_alloc ?_ _)); refine blk_put (cs := #[.int .i64 t102, .int .i64 t103, .int .i64 t104, .string (⟨#[]⟩ : ByteArray)]) ?_ 3 _ rfl; (with_reducible repeat (first | refine blk_drewN ?_ _ | refine blk_drew ?_ | refine blk_alloc ?_ _)); refine blk_put (cs := #[.int .i64 t102, .int .i64 t103, .int .i64 0, .string (⟨#[]⟩ : ByteArray)]) ?_ 2 _ rfl; (with_reducible repeat (first | refine blk_drewN ?_ _ | refine blk_drew ?_ | refine blk_alloc ?_ _)); refine blk_put (cs := #[.int .i64 t102, .int .i64 0, .int .i64 0, .string (⟨#[]⟩ : ByteArray)]) ?_ 1 _ rfl; (with_reducible repeat (first | refine blk_drewN ?_ _ | refine blk_drew ?_ | refine blk_alloc ?_ _)); refine blk_put (cs := #[.int .i64 0, .int .i64 0, .int .i64 0, .string (⟨#[]⟩ : ByteArray)]) ?_ 0 _ rfl; (with_reducible repeat (first | refine blk_drewN ?_ _ | refine blk_drew ?_ | refine blk_alloc ?_ _)); exact BK107.out) k_ hk)); (case aO => exact (by (with_reducible repeat (first | apply Kd.R_alloc | apply Kd.R_drewN | apply Kd.R_drew)); exact Kd.R_mono (Kd.R_far (p := ⟨gb107, 3, none⟩) (Kd.R_far (p := ⟨gb107, 2, none⟩) (Kd.R_far (p := ⟨gb107, 1, none⟩) (Kd.R_far (p := ⟨gb107, 0, none⟩) (Kd.R_mono HO_6.out (fun k_ hk => (⟨hk, hk.2⟩ : _ ∧ k_ ≠ gb107))) (fun _ hk => hk.2) (.int .i64 t102)) (fun _ hk => hk.2) (.int .i64 t103)) (fun _ hk => hk.2) (.int .i64 t104)) (fun _ hk => hk.2) (.string t105)) (fun _ hk => hk.1.2))); (case aS => exact (below_size (by repeat (first | (with_reducible first | exact HB.out | apply below_alloc | apply pw_below_drewN | apply below_drew1 | refine below_set ?_ GE107.out) | exact HB.out)))); (case aL => have := LMc21.out; omega); intro v113 w26 ho hb hg hat; rw [← Ny112.out] at ho; have n0_ := Aside0.mk (blk_grown (g := gb107) (o := .cells #[.int .i64 t102, .int .i64 t103, .int .i64 t104, .string t105] 94 (0, 0)) (by (with_reducible repeat (first | refine blk_drewN ?_ _ | refine blk_drew ?_ | refine blk_alloc ?_ _)); refine blk_put (cs := #[.int .i64 t102, .int .i64 t103, .int .i64 t104, .string (⟨#[]⟩ : ByteArray)]) ?_ 3 _ rfl; (with_reducible repeat (first | refine blk_drewN ?_ _ | refine blk_drew ?_ | refine blk_alloc ?_ _)); refine blk_put (cs := #[.int .i64 t102, .int .i64 t103, .int .i64 0, .string (⟨#[]⟩ : ByteArray)]) ?_ 2 _ rfl; (with_reducible repeat (first | refine blk_drewN ?_ _ | refine blk_drew ?_ | refine blk_alloc ?_ _)); refine blk_put (cs := #[.int .i64 t102, .int .i64 0, .int .i64 0, .string (⟨#[]⟩ : ByteArray)]) ?_ 1 _ rfl; (with_reducible repeat (first | refine blk_drewN ?_ _ | refine blk_drew ?_ | refine blk_alloc ?_ _)); refine blk_put (cs := #[.int .i64 0, .int .i64 0, .int .i64 0, .string (⟨#[]⟩ : ByteArray)]) ?_ 0 _ rfl; (with_reducible repeat (first | refine blk_drewN ?_ _ | refine blk_drew ?_ | refine blk_alloc ?_ _)); exact BK107.out) hg (Kd.R_away HO_6.out (fun _ hk => hk.2))); have n1_ := Aside0.mk (hb); have n2_ := Aside0.mk (ho); clear BK107; clear HB; clear HO_6; have BK107 := n0_; have HB := n1_; have HO114 := n2_; clear n0_ n1_ n2_; clear ho hb hg hat))
                    go_roundg k1
                    case measure => have := HK1.out; omega
                    case rel => exact ⟨(y112), (wrap64 (x18_1 + 1)), (by first | rfl | (simp; done) | (simp [*]; done)), H', ⟨by have := HK1.out; omega⟩, ⟨by (with_reducible repeat (first | apply Kd.R_alloc | apply Kd.R_drewN | apply Kd.R_drew)); exact Kd.R_mono HO114.out (fun _ hk => trivial)⟩, ⟨by repeat (first | (with_reducible first | exact HB.out | apply below_alloc | apply pw_below_drewN | apply below_drew1 | refine below_set ?_ GE107.out) | exact HB.out)⟩⟩
                  · rw [if_neg c21] at H
                    exact absurd H (by simp)
              · rw [if_neg c7] at H
                have c7b0 : (t106 == 0) = false := beq_eq_false_iff_ne.mpr c7
                have c7b1 : (t106 != 0) = true := bne_iff_ne.mpr c7
                have H' := Aside0.mk H
                clear H
                have p101 : 0 ≤ (x18_1 : Int) := of_decide_eq_true (by first | (with_reducible assumption) | assumption)
                have q101 : x18_1 < (l0.length : Int) := of_decide_eq_true (by first | (with_reducible assumption) | assumption)
                obtain ⟨ad101, e101, hx101_0⟩ := Kd.at_string HR0.out x18_1 p101 q101
                cases e101
                replace hx101_0 := (HB.out.cell (World.block_lt_of_cell? w _ hx101_0)).trans hx101_0
                replace p101 := eq_true p101
                replace q101 := eq_true q101
                go_wp2_with (first | ((with_reducible refine gate_callee (f := 52) rfl ?_); refine goesL_ (some 24) rfl rfl Try.func52 (by kernel_rfl) rfl #[.string (rdOf ByteArray.empty l0 x18_1)] rfl (by (try simp only [List.map_toArray, List.map_cons, List.map_nil]); first | done | rfl | (simp only [List.length_drop, List.length_take]; rfl)) ?_; (with_reducible refine (frames_Tell.calls k1 (rdOf ByteArray.empty l0 x18_1) t102 t103 t104 t105 t106 _ A6.out).mono ?_); rintro e w27 ⟨rfl, hb⟩; refine ⟨_, rfl, ?_⟩; have n0_ := Aside0.mk (Kd.R_below (by (with_reducible repeat (first | apply Kd.R_alloc | apply Kd.R_drewN | apply Kd.R_drew)); exact HO_6.out) hb); have n1_ := Aside0.mk (below_step (by repeat (first | (with_reducible first | exact HB.out | apply below_alloc | apply pw_below_drewN | apply below_drew1) | exact HB.out)) hb); clear HO_6; clear HB; have HO_6 := n0_; have HB := n1_; clear n0_ n1_; (try clear hb); (try clear hb2); (try clear hk); (try clear hi)) | ((with_reducible refine gate_dst (N := 9) rfl ?_); (try (refine gate_guard (by rfl) ?_; dsimp only)); refine box_event ?hg (N := 9) ?hd (cs := #[.int .i64 0, .int .i64 0, .int .i64 0, .string (⟨#[]⟩ : ByteArray)]) (t := 94) ?hr ?_; (case hd => rfl); (case hg => rfl); (case hr => first | (go_simp; done) | (go_simp; rfl)); intro gb107 hg w28 hbox hb; have n0_ := Aside0.mk (Kd.R_below (Kd.R_elderB (by (with_reducible repeat (first | apply Kd.R_alloc | apply Kd.R_drewN | apply Kd.R_drew)); exact HO_6.out) gb107 (Nat.le_of_eq hg.symm)) hb); have n1_ := Aside0.mk (below_step (by repeat (first | (with_reducible first | exact HB.out | apply below_alloc | apply pw_below_drewN | apply below_drew1) | exact HB.out)) hb); have n2_ := Aside0.mk (hbox); have n3_ := Aside0.mk ((by rw [hg]; exact (below_size (by repeat (first | (with_reducible first | exact HB.out | apply below_alloc | apply pw_below_drewN | apply below_drew1) | exact HB.out))) : w.heap.size ≤ gb107)); have n4_ := Aside0.mk ((by rw [hg]; exact (below_size (by repeat (first | (with_reducible first | exact HB.out | apply below_alloc | apply pw_below_drewN | apply below_drew1) | exact HB.out))) : w.heap.size ≤ gb107)); clear HO_6; clear HB; have HO_6 := n0_; have HB := n1_; have BK107 := n2_; have GW107 := n3_; have GE107 := n4_; clear n0_ n1_ n2_ n3_ n4_; clear hb hbox hg; have hcz29_0 : w28.cell? ⟨gb107, 0, none⟩ = some (.int .i64 0) := (blk_cell BK107.out 0).trans rfl; have hcz29_1 : w28.cell? ⟨gb107, 1, none⟩ = some (.int .i64 0) := (blk_cell BK107.out 1).trans rfl; have hcz29_2 : w28.cell? ⟨gb107, 2, none⟩ = some (.int .i64 0) := (blk_cell BK107.out 2).trans rfl; have hcz29_3 : w28.cell? ⟨gb107, 3, none⟩ = some (.string (⟨#[]⟩ : ByteArray)) := (blk_cell BK107.out 3).trans rfl; have hfz29_0 := blk_frozen BK107.out 0; have hfz29_1 := blk_frozen BK107.out 1; have hfz29_2 := blk_frozen BK107.out 2; have hfz29_3 := blk_frozen BK107.out 3))
                go_meet
                case rel => exact ⟨_, (x6_1), H', ⟨by have := HK1.out; first | omega | exact Nat.le_refl _⟩, ⟨by (with_reducible repeat (first | apply Kd.R_alloc | apply Kd.R_drewN | apply Kd.R_drew)); exact Kd.R_mono (Kd.R_far (p := ⟨gb107, 3, none⟩) (Kd.R_far (p := ⟨gb107, 2, none⟩) (Kd.R_far (p := ⟨gb107, 1, none⟩) (Kd.R_far (p := ⟨gb107, 0, none⟩) (Kd.R_mono HO_6.out (fun k_ hk => (⟨hk, hk.2⟩ : _ ∧ k_ ≠ gb107))) (fun _ hk => hk.2) (.int .i64 t102)) (fun _ hk => hk.2) (.int .i64 t103)) (fun _ hk => hk.2) (.int .i64 t104)) (fun _ hk => hk.2) (.string t105)) (fun _ hk => trivial)⟩, ⟨by repeat (first | (with_reducible first | exact HB.out | apply below_alloc | apply pw_below_drewN | apply below_drew1 | refine below_set ?_ GE107.out) | exact HB.out)⟩⟩
            · rw [if_neg c5] at H
              exact absurd H (by simp)
          · rw [if_neg c4] at H
            exact absurd H (by simp)
        · rw [if_neg c3] at H
          have c3b0 : decide (x18_1 < (l0.length : Int)) = false := decide_eq_false c3
          clear c3
          (first | rw [c3b0] | (simp only [i64_w, i32_w]; rw [c3b0]) | skip)
          have H' := Aside0.mk H
          clear H
          go_wp2
          go_meet
          case rel => exact ⟨_, (x6_1), H', ⟨by have := HK1.out; first | omega | exact Nat.le_refl _⟩, ⟨by (with_reducible repeat (first | apply Kd.R_alloc | apply Kd.R_drewN | apply Kd.R_drew)); exact HO_6.out⟩, ⟨by repeat (first | (with_reducible first | exact HB.out | apply below_alloc | apply pw_below_drewN | apply below_drew1) | exact HB.out)⟩⟩
  case rest =>
    clear HC2
    try clear c1
    try clear p1
    try clear q1
    try clear hx1
    try clear qi1
    try clear c2
    try clear p2
    try clear c3
    try clear c3b0
    try clear c4
    try clear c4b0
    try clear c5
    try clear c5b0
    try clear p6
    try clear c7
    try clear c7b0
    try clear c7b1
    try clear c8
    try clear c8b0
    try clear c8b1
    try clear c9
    try clear c9b0
    try clear c9b1
    try clear c10
    try clear c10b0
    try clear c10b1
    try clear p10
    try clear q10
    try clear hx10
    try clear qi10
    try clear c15
    try clear c21
    try clear hcz13_0
    try clear hcz13_1
    try clear hcz13_2
    try clear hcz13_3
    try clear hcz18_0
    try clear hcz18_1
    try clear hcz18_2
    try clear hcz18_3
    try clear hcz24_0
    try clear hcz24_1
    try clear hcz24_2
    try clear hcz24_3
    try clear hcz29_0
    try clear hcz29_1
    try clear hcz29_2
    try clear hcz29_3
    try clear hfz13_0
    try clear hfz13_1
    try clear hfz13_2
    try clear hfz13_3
    try clear hfz18_0
    try clear hfz18_1
    try clear hfz18_2
    try clear hfz18_3
    try clear hfz24_0
    try clear hfz24_1
    try clear hfz24_2
    try clear hfz24_3
    try clear hfz29_0
    try clear hfz29_1
    try clear hfz29_2
    try clear hfz29_3
    try clear hx101_0
    try clear hx108_0
    try clear hx108_1
    try clear hx108_2
    try clear hx108_3
    try clear p101
    try clear p108
    try clear p2
    try clear q101
    try clear q108
    obtain ⟨kq, x6_1, HA, HJ1, HO_6, HB⟩ := hcut
    cases kq with
    | zero => exact absurd HA.out (by simp [frames_Join.j1])
    | succ kj1 =>
      have H := HA.out
      clear HA
      simp only [frames_Join.j1] at H
      have HC30 := Aside0.mk H
      clear H
      go_upto_region 9 with (fail)
      go_cut [59] (fun v59 wc => ∃ (kq : Nat) (x59_29 : Bool), v59 = .bool x59_29 ∧ Aside0 (frames_Join.j2 kq l0 x6_1 x59_29 = some (r1, r2, r3, r4)) ∧ Aside0 (kq ≤ kj1) ∧ Aside0 (Kd.R k94 94 wc w.heap.size (fun _ => True) u6 x6_1) ∧ Aside0 (Below w.heap.size w wc))
      case first =>
        have H := HC30.out
        clear HC30
        by_cases c31 : (x6_1.length : Int) = 0
        · rw [if_pos c31] at H
          have c31b0 : ((x6_1.length : Int) == 0) = true := beq_iff_eq.mpr c31
          have c31b1 : ((x6_1.length : Int) != 0) = false := bne_eq_false_iff_eq.mpr c31
          clear c31
          (first | rw [c31b0] | (simp only [i64_w, i32_w]; rw [c31b0]) | skip)
          have H' := Aside0.mk H
          clear H
          obtain ⟨Ao32, co32, eo32⟩ := Kd.R_slice HO_6.out
          subst eo32
          go_wp2
          go_meet
          case rel => exact ⟨_, (true), (by first | rfl | (simp; done) | (simp [*]; done)), H', ⟨by have := HJ1.out; first | omega | exact Nat.le_refl _⟩, ⟨by (with_reducible repeat (first | apply Kd.R_alloc | apply Kd.R_drewN | apply Kd.R_drew)); exact HO_6.out⟩, ⟨by repeat (first | (with_reducible first | exact HB.out | apply below_alloc | apply pw_below_drewN | apply below_drew1) | exact HB.out)⟩⟩
        · rw [if_neg c31] at H
          have c31b0 : ((x6_1.length : Int) == 0) = false := beq_eq_false_iff_ne.mpr c31
          have c31b1 : ((x6_1.length : Int) != 0) = true := bne_iff_ne.mpr c31
          have c31b2 : ¬ (x6_1 = []) := fun h_ => c31 (by rw [h_]; rfl)
          (first | rw [c31b0] | (simp only [i64_w, i32_w]; rw [c31b0]) | skip)
          by_cases c33 : 0 < (x6_1.length : Int)
          · rw [if_pos c33] at H
            have c33b0 : decide (0 < (x6_1.length : Int)) = true := decide_eq_true c33
            have c33b1 : decide (0 < x6_1.length) = true := decide_eq_true (by omega)
            clear c33
            have H' := Aside0.mk H
            clear H
            obtain ⟨Ao34, co34, eo34⟩ := Kd.R_slice HO_6.out
            subst eo34
            have p115 : 0 ≤ (0 : Int) := (by omega)
            have q115 : 0 < (x6_1.length : Int) := of_decide_eq_true (by first | (with_reducible assumption) | assumption)
            obtain ⟨ad115, e115, hx115_0, hx115_1, hx115_2, hx115_3⟩ := at_T94 (Kd.R_reads' HO_6.out).2.2 0 p115 q115
            cases e115
            have qi115 : (0 < x6_1.length) = True := eq_true (by omega)
            (try rw [show ((0 : Int)).toNat = 0 from rfl] at hx115_0)
            (try rw [show 0 * 4 = 0 from rfl] at hx115_0)
            (try rw [Addr.add_zero'] at hx115_0)
            (try rw [show ((0 : Int)).toNat = 0 from rfl] at hx115_1)
            (try rw [show 0 * 4 = 0 from rfl] at hx115_1)
            (try rw [Addr.add_zero'] at hx115_1)
            (try rw [show ((0 : Int)).toNat = 0 from rfl] at hx115_2)
            (try rw [show 0 * 4 = 0 from rfl] at hx115_2)
            (try rw [Addr.add_zero'] at hx115_2)
            (try rw [show ((0 : Int)).toNat = 0 from rfl] at hx115_3)
            (try rw [show 0 * 4 = 0 from rfl] at hx115_3)
            (try rw [Addr.add_zero'] at hx115_3)
            replace p115 := eq_true p115
            replace q115 := eq_true q115
            go_wp2
            go_meet
            case rel => exact ⟨_, (((x6_1.length : Int) != ((rd_T94 x6_1 0).f2))), (by first | rfl | (simp; done) | (simp [*]; done)), H', ⟨by have := HJ1.out; first | omega | exact Nat.le_refl _⟩, ⟨by (with_reducible repeat (first | apply Kd.R_alloc | apply Kd.R_drewN | apply Kd.R_drew)); exact HO_6.out⟩, ⟨by repeat (first | (with_reducible first | exact HB.out | apply below_alloc | apply pw_below_drewN | apply below_drew1) | exact HB.out)⟩⟩
          · rw [if_neg c33] at H
            exact absurd H (by simp)
      case rest =>
        clear HC30
        try clear c1
        try clear p1
        try clear q1
        try clear hx1
        try clear qi1
        try clear c2
        try clear p2
        try clear c3
        try clear c3b0
        try clear c4
        try clear c4b0
        try clear c5
        try clear c5b0
        try clear p6
        try clear c7
        try clear c7b0
        try clear c7b1
        try clear c8
        try clear c8b0
        try clear c8b1
        try clear c9
        try clear c9b0
        try clear c9b1
        try clear c10
        try clear c10b0
        try clear c10b1
        try clear p10
        try clear q10
        try clear hx10
        try clear qi10
        try clear p11
        try clear q11
        try clear hx11
        try clear qi11
        try clear c15
        try clear c21
        try clear c31
        try clear c31b0
        try clear c31b1
        try clear c31b2
        try clear c33
        try clear c33b0
        try clear c33b1
        try clear hcz13_0
        try clear hcz13_1
        try clear hcz13_2
        try clear hcz13_3
        try clear hcz18_0
        try clear hcz18_1
        try clear hcz18_2
        try clear hcz18_3
        try clear hcz24_0
        try clear hcz24_1
        try clear hcz24_2
        try clear hcz24_3
        try clear hcz29_0
        try clear hcz29_1
        try clear hcz29_2
        try clear hcz29_3
        try clear hfz13_0
        try clear hfz13_1
        try clear hfz13_2
        try clear hfz13_3
        try clear hfz18_0
        try clear hfz18_1
        try clear hfz18_2
        try clear hfz18_3
        try clear hfz24_0
        try clear hfz24_1
        try clear hfz24_2
        try clear hfz24_3
        try clear hfz29_0
        try clear hfz29_1
        try clear hfz29_2
        try clear hfz29_3
        try clear hx101_0
        try clear hx108_0
        try clear hx108_1
        try clear hx108_2
        try clear hx108_3
        try clear hx115_0
        try clear hx115_1
        try clear hx115_2
        try clear hx115_3
        try clear p1
        try clear p10
        try clear p101
        try clear p108
        try clear p115
        try clear p2
        try clear p6
        try clear q1
        try clear q10
        try clear q101
        try clear q108
        try clear q115
        obtain ⟨kq, x59_29, rfl, HA, HJ29, HO_6, HB⟩ := hcut
        cases kq with
        | zero => exact absurd HA.out (by simp [frames_Join.j2])
        | succ kj29 =>
          have H := HA.out
          clear HA
          simp only [frames_Join.j2] at H
          by_cases c35 : x59_29 = true
          · subst c35
            have H1 : (some (0, (⟨#[]⟩ : ByteArray), 0, 43)) = some (r1, r2, r3, r4) := by rw [if_pos rfl] at H; exact H
            clear H
            have H := H1
            clear H1
            simp only [Option.some.injEq, Prod.mk.injEq] at H
            obtain ⟨rfl, rfl, rfl, rfl⟩ := H
            go_wp2
            refine bodyPost_ret (results_list (rs := [.tmp 2, .tmp 3, .tmp 4, .tmp 5]) rfl (by simp) (.tmp (.tmp (.tmp (.tmp .nil))))) rfl ?_
            exact ⟨by first | rfl | (simp [errW_none, errW_some] <;> rfl) | (simp [*, errW_none, errW_some] <;> rfl), by repeat (first | (with_reducible first | exact HB.out | apply below_alloc | apply pw_below_drewN | apply below_drew1) | exact HB.out)⟩
          · replace c35 := Bool.eq_false_iff.mpr c35
            subst c35
            have H1 : (frames_JoinH.f kj29 x6_1 l0) = some (r1, r2, r3, r4) := by rw [if_neg (show ¬ (false = true) by decide)] at H; exact H
            clear H
            have H := H1
            clear H1
            have H' := Aside0.mk H
            clear H
            have hcond : 0 < (x6_1).length ∧ (x6_1).length ≤ (l0).length ∧ (datas x6_1).length ≤ 140737488355328 := by
              by_cases hc : 0 < (x6_1).length ∧ (x6_1).length ≤ (l0).length ∧ (datas x6_1).length ≤ 140737488355328
              · exact hc
              · have HH := H'.out
                unfold frames_JoinH.f at HH
                rw [if_neg hc] at HH
                cases HH
            have HH := H'.out
            unfold frames_JoinH.f at HH
            rw [if_pos hcond] at HH
            clear H'
            obtain ⟨all, hall⟩ : ∃ all, all = x6_1 := ⟨_, rfl⟩
            rw [← hall] at HH hcond HO_6
            clear hall
            replace HH := Option.bind_eq_some_iff.mp HH
            obtain ⟨⟨t1, t2⟩, AL0, HH⟩ := HH
            have AL := Aside0.mk AL0
            have HE := Aside0.mk HH
            have hn0 := Aside0.mk hcond.1
            have hn1 := Aside0.mk hcond.2.1
            have hn2 := Aside0.mk hcond.2.2
            clear AL0 HH hcond
            obtain ⟨g, cap, hv, hgb, hgl, hgc⟩ := Kd.R_form HO_6.out hn0.out
            subst hv
            clear hgc
            obtain ⟨A', c', hA', hcc, HC⟩ := Kd.R_reads HO_6.out
            cases hA'
            have HCC := Aside0.mk HC
            have hm9 : all.length ≤ 9223372036854775807 := HC.2.1
            clear HC
            have Hcc := Aside0.mk hcc
            have Hgb := Aside0.mk hgb
            have Hgl := Aside0.mk hgl
            clear hcc hgb hgl
            go_wp2
            go_loopw [62] (fun v62 wr => ∃ i : Int, 0 ≤ i ∧ i ≤ (all.length : Int) ∧ v62 = .int .i64 i ∧ Aside0 (Lib.IsBuilder 99 5 wc.heap.size wc.heap.size (Lib.byteCells (datas (all.take i.toNat))) wr) ∧ Aside0 (Below wc.heap.size wc wr)) (fun v62 _ => all.length - (intOf v62).toNat)
            case atStart => exact ⟨0, by omega, by omega, rfl, ⟨Lib.fresh_isBuilder 99 5 wc⟩, ⟨(Below.refl _ wc).alloc (Nat.le_refl _) _⟩⟩
            case round =>
              obtain ⟨i, hi0, hi, rfl, HI, HW⟩ := hrel
              by_cases hlt : i < (all.length : Int)
              · obtain ⟨ad, e1, h1, h2, h3, h4⟩ := at_T94 HCC.out i hi0 hlt
                cases e1
                replace h1 := (HW.out.cell (World.block_lt_of_cell? wc _ h1)).trans h1
                replace h2 := (HW.out.cell (World.block_lt_of_cell? wc _ h2)).trans h2
                replace h3 := (HW.out.cell (World.block_lt_of_cell? wc _ h3)).trans h3
                replace h4 := (HW.out.cell (World.block_lt_of_cell? wc _ h4)).trans h4
                simp only [add_plain] at h1 h2 h3 h4
                have HS := Aside0.mk (datas_snoc all i hi0 hlt)
                have HL := Aside0.mk (datas_le all (i + 1).toNat)
                go_wp2_with (go_at_call 53; refine (BldS.writeString wc.heap.size wc.heap.size _ _ _ (BldS.is_below HI.out ((Below.refl _ _).alloc (Nat.le_refl _) _)) (by have e1 := HS.out; have e2 := HL.out; have e3 := hn2.out; rw [e1, List.length_append] at e2; rw [BldS.cells_len]; simp at e2; omega) (by have := HW.out.size; simp; omega)).mono ?_; rintro e w1 ⟨rfl, hb1, hw1⟩; have HB1 := Aside0.mk hb1; have HW1 := Aside0.mk hw1; clear hb1 hw1)
                go_roundw
                case rel => exact ⟨i + 1, by omega, by omega, rfl, ⟨.inr (by rw [HS.out, BldS.cells_app, ← BldS.cells_str]; exact HB1.out)⟩, ⟨(HW.out.alloc (by have := HW.out.size; omega) _).trans HW1.out⟩⟩
                case measure => simp [intOf]; omega
              · have e2 : all.take i.toNat = all := List.take_of_length_le (by omega)
                rw [e2] at HI
                clear e2
                have hg0 : wr.cell? ⟨g, 0, none⟩ = some (.int .i64 (rd_T94 all 0).f0) := by
                  obtain ⟨ad, e1, h1, h2, h3, h4⟩ := at_T94 HCC.out 0 (by omega) (by have := hn0.out; omega)
                  cases e1
                  simp only [add_plain] at h1
                  exact (HW.out.cell (World.block_lt_of_cell? wc _ h1)).trans h1
                have hlen0 : 0 < all.length := hn0.out
                have hgne : (g == wc.heap.size) = false := by have := Hgl.out; simp; omega
                have hgc := Aside0.mk hg0
                go_wp2_with fail
                go_region_with (first | (go_at_call 54; (refine (Try.Builder_String_any_f wc.heap.size wc.heap.size (datas all) _ (BldS.isF HI.out) (HW.out.drew.size)).mono ?_; rintro e wS ⟨rfl, hIS, hbS⟩; have HIS := Aside0.mk hIS; have HBS := Aside0.mk (HW.out.drew.trans hbS); have hgS : wS.cell? ⟨g, 0, none⟩ = some (.int .i64 (rd_T94 all 0).f0) := (hbS.cell (p := ⟨g, 0, none⟩) Hgl.out).trans hgc.out; clear hIS hbS)) | (go_at_call 48; refine (frames_Lay.calls _ _ _ _ _ _ AL.out).mono ?_; rintro e wL ⟨vL, rfl, hRL, hbL⟩; have HRL := Aside0.mk hRL; have HBL := Aside0.mk hbL; clear hRL hbL))
                all_goals
                  obtain ⟨A2, c2, hv2, hc2, HC2⟩ := Kd.R_reads HRL.out
                  subst hv2
                  have hHC2 := Aside0.mk HC2
                  have hhc2 := Aside0.mk hc2
                  have hm9b : t1.length ≤ 9223372036854775807 := HC2.2.1
                  clear hc2 HC2
                  have HBW := Aside0.mk (below_then HB.out (HB.out.size) (below_then (B := wc.heap.size) HBS.out HBS.out.size HBL.out))
                  have HEx := HE.out
                  (try dsimp only at HEx)
                  by_cases h2 : t2 = 0
                  · rw [if_pos h2] at HEx
                    subst h2
                    replace HEx := Option.bind_eq_some_iff.mp HEx
                    obtain ⟨b, hEq, HEx⟩ := HEx
                    have HEy := Aside0.mk HEx
                    have hle0 := hn1.out
                    have hcc0 := HC0.out
                    have HQ : Aside0 (∀ W, Below wL.heap.size wL W → Calls Try.prog 55 #[.slice A2 t1.length c2, .slice A0 all.length c0] W fun e w' => e = .returned (.bool b) ∧ Drawn0 W w') := ⟨fun W hW => by
                      have hr1 : Kd.C Kd.string W A0 (l0.take all.length).length (l0.take all.length) := Kd.C_below (Kd.C_below (Kd.C_take HR0.out hn1.out) HBW.out) hW
                      have hq := slices_Equal_string_string.calls _ A2 c2 t1 A0 c0 (l0.take all.length) b W (Kd.C_below hHC2.out hW) hhc2.out hr1 (by rw [List.length_take]; omega) hEq
                      rw [List.length_take, Nat.min_eq_left hn1.out] at hq
                      exact hq⟩
                    clear HEx hEq
                    have hk1 : all.length ≤ c0 := by omega
                    have hgL : wL.cell? ⟨g, 0, none⟩ = some (.int .i64 (rd_T94 all 0).f0) := (HBL.out.cell (World.block_lt_of_cell? wS _ hgS)).trans hgS
                    have HIL := Aside0.mk (BldS.isF_below HIS.out HBL.out)
                    clear hg0 hgS hcc0 hle0
                    cases b with
                    | true =>
                      go_wp2_with (go_at_call 55; refine (HQ.out _ (Below.refl _ _)).mono ?_; rintro e wE ⟨rfl, hdr⟩; obtain ⟨nd, hdr⟩ := hdr.out; subst hdr)
                      go_region_with ((go_at_call 54; refine (Try.Builder_String_any_f wc.heap.size wc.heap.size (datas all) _ (by exact HIL.out) (by have e1 := HBS.out.size; have e2 := HBL.out.size; exact Nat.le_trans e1 e2)).mono ?_; rintro e wF ⟨rfl, _hIF, hbF⟩; have HBF := Aside0.mk hbF; have hgF : wF.cell? ⟨g, 0, none⟩ = some (.int .i64 (rd_T94 all 0).f0) := (hbF.cell (p := ⟨g, 0, none⟩) Hgl.out).trans hgL; clear hbF))
                      all_goals
                        go_wp2
                        refine bodyPost_ret (results_list (rs := [.tmp 2, .tmp 3, .tmp 4, .tmp 5]) rfl (by simp) (.tmp (.tmp (.tmp (.tmp .nil))))) rfl ?_
                        have HZ := HEy.out
                        simp only [if_true, Option.some.injEq, Prod.mk.injEq] at HZ
                        obtain ⟨rfl, rfl, rfl, rfl⟩ := HZ
                        exact ⟨rfl, (show Below w.heap.size w ((wL.drewN nd).drew) from below_drew (pw_below_drewN HBW.out nd)).trans (HBF.out.mono HB.out.size)⟩
                    | false =>
                      go_wp2_with (go_at_call 55; refine (HQ.out _ (Below.refl _ _)).mono ?_; rintro e wE ⟨rfl, hdr⟩; obtain ⟨nd, hdr⟩ := hdr.out; subst hdr)
                      refine bodyPost_ret (results_list (rs := [.tmp 2, .tmp 3, .tmp 4, .tmp 5]) rfl (by simp) (.tmp (.tmp (.tmp (.tmp .nil))))) rfl ?_
                      have HZ := HEy.out
                      rw [if_neg (show ¬ (false = true) by decide)] at HZ
                      simp only [Option.some.injEq, Prod.mk.injEq] at HZ
                      obtain ⟨rfl, rfl, rfl, rfl⟩ := HZ
                      exact ⟨rfl, pw_below_drewN HBW.out nd⟩
                  · rw [if_neg h2] at HEx
                    have HEy := Aside0.mk HEx
                    have h2a : (t2 == 0) = false := beq_eq_false_iff_ne.mpr h2
                    have h2b : (t2 != 0) = true := bne_iff_ne.mpr h2
                    clear HEx hg0 hgS
                    go_wp2
                    refine bodyPost_ret (results_list (rs := [.tmp 2, .tmp 3, .tmp 4, .tmp 5]) rfl (by simp) (.tmp (.tmp (.tmp (.tmp .nil))))) rfl ?_
                    have HZ := HEy.out
                    simp only [Option.some.injEq, Prod.mk.injEq] at HZ
                    obtain ⟨rfl, rfl, rfl, rfl⟩ := HZ
                    exact ⟨rfl, HBW.out⟩

end Go.Proofs.Ytdjcaogffppdhaa
