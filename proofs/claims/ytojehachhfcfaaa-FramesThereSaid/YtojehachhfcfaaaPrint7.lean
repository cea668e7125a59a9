-- Written by xprint.py, a program of this session, by the kit's printer.
import Derived.Test.YtojehachhfcfaaaPrint0
import Derived.Test.YtojehachhfcfaaaPrint3
import Derived.Test.YtojehachhfcfaaaPrint4
namespace Go.Proofs.Ytojehachhfcfaaa.Print
open Go.RowKit Go.Proofs.YtojehachhfcfaaaW.PrintWords Go.Proofs.YtojehachhfcfaaaW.PrintLast Go.Proofs.YtojehachhfcfaaaW.PrintMore
attribute [local go_sem] max2_int min2_int max_two min_two max_three min_three max_four min_four   -- for this text's walks alone
set_option linter.unusedVariables false
set_option linter.unusedSimpArgs false

/-! ### stevedorelaw04_FramesThere: function 6 -/
mutual
def stevedorelaw04_FramesThere.j0 : Nat → List ByteArray → Option (Bool)
  | 0, _ => none
  | k + 1, x0 => stevedorelaw04_FramesThere.l0 k x0 0
def stevedorelaw04_FramesThere.l0 : Nat → List ByteArray → Int → Option (Bool)
  | 0, _, _ => none
  | k + 1, x0, x9 => if x9 < (x0.length : Int) then (if 0 ≤ x9 then ((frames_Tell.f k (rdOf ByteArray.empty x0 x9)).bind fun bt274 => (if bt274.2.2.2.2 = 0 then (if bt274.1 < 1 then (some false) else (if bt274.2.1 < 0 then (some false) else (if bt274.2.1 ≥ bt274.2.2.1 then (some false) else (if bt274.2.2.1 > 8 then (some false) else (if (bt274.2.2.2.1.size : Int) > 55 then (some false) else (stevedorelaw04_FramesThere.l0 k x0 (wrap64 (x9 + 1)))))))) else (stevedorelaw04_FramesThere.l0 k x0 (wrap64 (x9 + 1))))) else (none)) else ((stevedorelaw04_awake.f k).bind fun t280 => (some t280))
end
def stevedorelaw04_FramesThere.f (k : Nat) (l0 : List ByteArray) : Option (Bool) := (frames_Join.f k l0).bind fun bt263 => (if bt263.2.2.2 = 0 then ((frames_Lay.f k bt263.1 bt263.2.1).bind fun bt267 => (if bt267.2 = 0 then (if bt263.2.2.1 < 1 then (some false) else (if bt263.2.2.1 > (l0.length : Int) then (some false) else (if 0 ≤ bt263.2.2.1 then (if bt263.2.2.1 ≤ (l0.length : Int) then ((stevedorelaw04_texts.f k bt267.1 (l0.take (bt263.2.2.1 : Int).toNat)).bind fun t272 => (if t272 = true then (stevedorelaw04_FramesThere.j0 k l0) else (some false))) else (none)) else (none)))) else (some false))) else (if bt263.2.2.2 = 43 then (if bt263.1 = 0 then (if bt263.2.1.toList = ([] : List UInt8) then (if bt263.2.2.1 = 0 then (stevedorelaw04_FramesThere.j0 k l0) else (some false)) else (some false)) else (some false)) else (some false)))
theorem stevedorelaw04_FramesThere.mono_l : ∀ k, (∀ y0, LeO (stevedorelaw04_FramesThere.j0 k y0) (stevedorelaw04_FramesThere.j0 (k + 1) y0)) ∧ (∀ y0 y1, LeO (stevedorelaw04_FramesThere.l0 k y0 y1) (stevedorelaw04_FramesThere.l0 (k + 1) y0 y1))
  | 0 => ⟨fun _ r h => by simp [stevedorelaw04_FramesThere.j0] at h, fun _ _ r h => by simp [stevedorelaw04_FramesThere.l0] at h⟩
  | k + 1 => by
    obtain ⟨ih0, ih1⟩ := stevedorelaw04_FramesThere.mono_l k
    refine ⟨?_, ?_⟩
    · intro y0
      unfold stevedorelaw04_FramesThere.j0
      repeat' first
      | (with_reducible exact ih0 _)
      | (with_reducible exact ih1 _ _)
      | (with_reducible exact frames_Join.mono _ _)
      | (with_reducible exact frames_Lay.mono _ _ _)
      | (with_reducible exact frames_Tell.mono _ _)
      | (with_reducible exact stevedorelaw04_awake.mono _)
      | (with_reducible exact stevedorelaw04_texts.mono _ _ _)
      | (with_reducible exact LeO.refl _)
      | (with_reducible exact LeO.none _)
      | (with_reducible refine LeO.ite ?_ ?_)
      | (with_reducible refine LeO.bind ?_ (fun _ => ?_))
      | exact ih0 _
      | exact ih1 _ _
      | exact frames_Join.mono _ _
      | exact frames_Lay.mono _ _ _
      | exact frames_Tell.mono _ _
      | exact stevedorelaw04_awake.mono _
      | exact stevedorelaw04_texts.mono _ _ _
      | exact LeO.none _
      | refine LeO.ite ?_ ?_
      | refine LeO.bind ?_ (fun _ => ?_)
    · intro y0 y1
      unfold stevedorelaw04_FramesThere.l0
      repeat' first
      | (with_reducible exact ih0 _)
      | (with_reducible exact ih1 _ _)
      | (with_reducible exact frames_Join.mono _ _)
      | (with_reducible exact frames_Lay.mono _ _ _)
      | (with_reducible exact frames_Tell.mono _ _)
      | (with_reducible exact stevedorelaw04_awake.mono _)
      | (with_reducible exact stevedorelaw04_texts.mono _ _ _)
      | (with_reducible exact LeO.refl _)
      | (with_reducible exact LeO.none _)
      | (with_reducible refine LeO.ite ?_ ?_)
      | (with_reducible refine LeO.bind ?_ (fun _ => ?_))
      | exact ih0 _
      | exact ih1 _ _
      | exact frames_Join.mono _ _
      | exact frames_Lay.mono _ _ _
      | exact frames_Tell.mono _ _
      | exact stevedorelaw04_awake.mono _
      | exact stevedorelaw04_texts.mono _ _ _
      | exact LeO.none _
      | refine LeO.ite ?_ ?_
      | refine LeO.bind ?_ (fun _ => ?_)
theorem stevedorelaw04_FramesThere.mono : ∀ a0 k, LeO (stevedorelaw04_FramesThere.f k a0) (stevedorelaw04_FramesThere.f (k + 1) a0) := by
  intro a0 k
  obtain ⟨ih0, ih1⟩ := stevedorelaw04_FramesThere.mono_l k
  unfold stevedorelaw04_FramesThere.f
  repeat' first
      | (with_reducible exact ih0 _)
      | (with_reducible exact ih1 _ _)
      | (with_reducible exact frames_Join.mono _ _)
      | (with_reducible exact frames_Lay.mono _ _ _)
      | (with_reducible exact frames_Tell.mono _ _)
      | (with_reducible exact stevedorelaw04_awake.mono _)
      | (with_reducible exact stevedorelaw04_texts.mono _ _ _)
      | (with_reducible exact LeO.refl _)
      | (with_reducible exact LeO.none _)
      | (with_reducible refine LeO.ite ?_ ?_)
      | (with_reducible refine LeO.bind ?_ (fun _ => ?_))
      | exact ih0 _
      | exact ih1 _ _
      | exact frames_Join.mono _ _
      | exact frames_Lay.mono _ _ _
      | exact frames_Tell.mono _ _
      | exact stevedorelaw04_awake.mono _
      | exact stevedorelaw04_texts.mono _ _ _
      | exact LeO.none _
      | refine LeO.ite ?_ ?_
      | refine LeO.bind ?_ (fun _ => ?_)
set_option maxHeartbeats 8000000 in
set_option maxRecDepth 100000 in
theorem stevedorelaw04_FramesThere.calls (k : Nat) (A0 : Option Addr) (c0 : Nat) (l0 : List ByteArray) (r : Bool) (w : World) (hr0 : Kd.C Kd.string w A0 l0.length l0) (hc0 : l0.length ≤ c0) (h : stevedorelaw04_FramesThere.f k l0 = some r) :
    Calls Try.prog 6 #[.slice A0 l0.length c0] w fun e w' => e = .returned (.bool r) ∧ Below w.heap.size w w' := by
  have hu27 := Try.underlying27
  have HR0 := Aside0.mk hr0
  have HC0 := Aside0.mk hc0
  clear hr0 hc0
  have HB := Aside0.mk (Below.refl w.heap.size w)
  have H : ((frames_Join.f k l0).bind fun bt263 => (if bt263.2.2.2 = 0 then ((frames_Lay.f k bt263.1 bt263.2.1).bind fun bt267 => (if bt267.2 = 0 then (if bt263.2.2.1 < 1 then (some false) else (if bt263.2.2.1 > (l0.length : Int) then (some false) else (if 0 ≤ bt263.2.2.1 then (if bt263.2.2.1 ≤ (l0.length : Int) then ((stevedorelaw04_texts.f k bt267.1 (l0.take (bt263.2.2.1 : Int).toNat)).bind fun t272 => (if t272 = true then (stevedorelaw04_FramesThere.j0 k l0) else (some false))) else (none)) else (none)))) else (some false))) else (if bt263.2.2.2 = 43 then (if bt263.1 = 0 then (if bt263.2.1.toList = ([] : List UInt8) then (if bt263.2.2.1 = 0 then (stevedorelaw04_FramesThere.j0 k l0) else (some false)) else (some false)) else (some false)) else (some false)))) = some r := h
  clear h
  replace H := Option.bind_eq_some_iff.mp H
  obtain ⟨⟨t263, t264, t265, t266⟩, A20, H⟩ := H
  replace H : (if t266 = 0 then ((frames_Lay.f k t263 t264).bind fun bt267 => (if bt267.2 = 0 then (if t265 < 1 then (some false) else (if t265 > (l0.length : Int) then (some false) else (if 0 ≤ t265 then (if t265 ≤ (l0.length : Int) then ((stevedorelaw04_texts.f k bt267.1 (l0.take (t265 : Int).toNat)).bind fun t272 => (if t272 = true then (stevedorelaw04_FramesThere.j0 k l0) else (some false))) else (none)) else (none)))) else (some false))) else (if t266 = 43 then (if t263 = 0 then (if t264.toList = ([] : List UInt8) then (if t265 = 0 then (stevedorelaw04_FramesThere.j0 k l0) else (some false)) else (some false)) else (some false)) else (some false))) = some r := H
  have A2 := Aside0.mk A20
  clear A20
  have HC3 := Aside0.mk H
  clear H
  go_enter Try.func6, Try.ntmps6
  go_upto_if 20 with (first | ((with_reducible refine gate_callee (f := 19) rfl ?_); refine goesL_ (some 14) rfl rfl Try.func19 (by kernel_rfl) rfl #[.slice A0 l0.length c0] rfl (by (try simp only [List.map_toArray, List.map_cons, List.map_nil]); first | done | rfl | (simp only [List.length_drop, List.length_take]; rfl)) ?_; (with_reducible refine (frames_Join.calls k _ _ l0 t263 t264 t265 t266 _ ?side1 ?side2 A2.out).mono ?_); (case side1 => repeat (first | exact HR0.out | (with_reducible refine Kd.C_alloc ?_ _) | (with_reducible refine Kd.C_drewN ?_ _) | (with_reducible refine Kd.C_drew ?_))); (case side2 => exact HC0.out); rintro e w4 ⟨rfl, hb⟩; refine ⟨_, rfl, ?_⟩; have n0_ := Aside0.mk (below_step (by repeat (first | (with_reducible first | exact HB.out | apply below_alloc | apply pw_below_drewN | apply below_drew1) | exact HB.out)) hb); clear HB; have HB := n0_; clear n0_; (try clear hb); (try clear hb2); (try clear hk); (try clear hi)))
  (try simp only [Act.put, List.setIfInBounds_toArray, List.set_cons_zero, List.set_cons_succ])
  go_cut [20] (fun v20 wc => ∃ (kq : Nat), Aside0 (stevedorelaw04_FramesThere.j0 kq l0 = some r) ∧ Aside0 (kq ≤ k) ∧ Aside0 (Below w.heap.size w wc))
  case first =>
    have H := HC3.out
    clear HC3
    by_cases c5 : t266 = 0
    · rw [if_pos c5] at H
      have c5b0 : (t266 == 0) = true := beq_iff_eq.mpr c5
      have c5b1 : (t266 != 0) = false := bne_eq_false_iff_eq.mpr c5
      clear c5
      (first | rw [c5b0] | (simp only [i64_w, i32_w]; rw [c5b0]) | skip)
      replace H := Option.bind_eq_some_iff.mp H
      obtain ⟨⟨t267, t268⟩, A60, H⟩ := H
      replace H : (if t268 = 0 then (if t265 < 1 then (some false) else (if t265 > (l0.length : Int) then (some false) else (if 0 ≤ t265 then (if t265 ≤ (l0.length : Int) then ((stevedorelaw04_texts.f k t267 (l0.take (t265 : Int).toNat)).bind fun t272 => (if t272 = true then (stevedorelaw04_FramesThere.j0 k l0) else (some false))) else (none)) else (none)))) else (some false)) = some r := H
      have A6 := Aside0.mk A60
      clear A60
      by_cases c7 : t268 = 0
      · rw [if_pos c7] at H
        have c7b0 : (t268 == 0) = true := beq_iff_eq.mpr c7
        have c7b1 : (t268 != 0) = false := bne_eq_false_iff_eq.mpr c7
        clear c7
        by_cases c8 : t265 < 1
        · rw [if_pos c8] at H
          have c8b0 : decide (t265 < 1) = true := decide_eq_true c8
          clear c8
          obtain rfl := Option.some.inj H
          go_wp2_with (first | ((with_reducible refine gate_callee (f := 13) rfl ?_); refine goesL_ (some 24) rfl rfl Try.func13 (by kernel_rfl) rfl #[.int .i64 t263, .string t264] rfl (by (try simp only [List.map_toArray, List.map_cons, List.map_nil]); first | done | rfl | (simp only [List.length_drop, List.length_take]; rfl)) ?_; (with_reducible refine (frames_Lay.calls k t263 t264 t267 t268 _ A6.out).mono ?_); rintro e w9 ⟨v269, rfl, ho0, hb⟩; refine ⟨_, rfl, ?_⟩; have n0_ := Aside0.mk (Kd.R_lower ho0 (below_size (by repeat (first | (with_reducible first | exact HB.out | apply below_alloc | apply pw_below_drewN | apply below_drew1) | exact HB.out)))); have n1_ := Aside0.mk (below_step (by repeat (first | (with_reducible first | exact HB.out | apply below_alloc | apply pw_below_drewN | apply below_drew1) | exact HB.out)) hb); clear HB; have HO270 := n0_; have HB := n1_; clear n0_ n1_; (try clear hb); (try clear hb2); (try clear hk); (try clear hi); (try clear ho0)))
          go_ret
          exact ⟨by first | rfl | (simp [errW_none, errW_some] <;> rfl) | (simp [*, errW_none, errW_some] <;> rfl), by repeat (first | (with_reducible first | exact HB.out | apply below_alloc | apply pw_below_drewN | apply below_drew1) | exact HB.out)⟩
        · rw [if_neg c8] at H
          have c8b0 : decide (t265 < 1) = false := decide_eq_false c8
          clear c8
          by_cases c10 : t265 > (l0.length : Int)
          · rw [if_pos c10] at H
            have c10b0 : decide ((l0.length : Int) < t265) = true := decide_eq_true c10
            clear c10
            obtain rfl := Option.some.inj H
            go_wp2_with (first | ((with_reducible refine gate_callee (f := 13) rfl ?_); refine goesL_ (some 24) rfl rfl Try.func13 (by kernel_rfl) rfl #[.int .i64 t263, .string t264] rfl (by (try simp only [List.map_toArray, List.map_cons, List.map_nil]); first | done | rfl | (simp only [List.length_drop, List.length_take]; rfl)) ?_; (with_reducible refine (frames_Lay.calls k t263 t264 t267 t268 _ A6.out).mono ?_); rintro e w11 ⟨v269, rfl, ho0, hb⟩; refine ⟨_, rfl, ?_⟩; have n0_ := Aside0.mk (Kd.R_lower ho0 (below_size (by repeat (first | (with_reducible first | exact HB.out | apply below_alloc | apply pw_below_drewN | apply below_drew1) | exact HB.out)))); have n1_ := Aside0.mk (below_step (by repeat (first | (with_reducible first | exact HB.out | apply below_alloc | apply pw_below_drewN | apply below_drew1) | exact HB.out)) hb); clear HB; have HO270 := n0_; have HB := n1_; clear n0_ n1_; (try clear hb); (try clear hb2); (try clear hk); (try clear hi); (try clear ho0)))
            go_ret
            exact ⟨by first | rfl | (simp [errW_none, errW_some] <;> rfl) | (simp [*, errW_none, errW_some] <;> rfl), by repeat (first | (with_reducible first | exact HB.out | apply below_alloc | apply pw_below_drewN | apply below_drew1) | exact HB.out)⟩
          · rw [if_neg c10] at H
            have c10b0 : decide ((l0.length : Int) < t265) = false := decide_eq_false c10
            clear c10
            by_cases c12 : 0 ≤ t265
            · rw [if_pos c12] at H
              have c12b0 := eq_true c12
              have c12b1 : decide (0 ≤ t265) = true := decide_eq_true c12
              clear c12
              by_cases c13 : t265 ≤ (l0.length : Int)
              · rw [if_pos c13] at H
                have c13b0 := eq_true c13
                have c13b1 : decide (t265 ≤ (l0.length : Int)) = true := decide_eq_true c13
                clear c13
                replace H := Option.bind_eq_some_iff.mp H
                obtain ⟨t272, A140, H⟩ := H
                replace H : (if t272 = true then (stevedorelaw04_FramesThere.j0 k l0) else (some false)) = some r := H
                have A14 := Aside0.mk A140
                clear A140
                by_cases c15 : t272 = true
                · subst c15
                  have H1 : (stevedorelaw04_FramesThere.j0 k l0) = some r := by rw [if_pos rfl] at H; exact H
                  clear H
                  have H := H1
                  clear H1
                  have H' := Aside0.mk H
                  clear H
                  go_wp2_with (first | ((with_reducible refine gate_callee (f := 13) rfl ?_); refine goesL_ (some 24) rfl rfl Try.func13 (by kernel_rfl) rfl #[.int .i64 t263, .string t264] rfl (by (try simp only [List.map_toArray, List.map_cons, List.map_nil]); first | done | rfl | (simp only [List.length_drop, List.length_take]; rfl)) ?_; (with_reducible refine (frames_Lay.calls k t263 t264 t267 t268 _ A6.out).mono ?_); rintro e w16 ⟨v269, rfl, ho0, hb⟩; refine ⟨_, rfl, ?_⟩; have n0_ := Aside0.mk (Kd.R_lower ho0 (below_size (by repeat (first | (with_reducible first | exact HB.out | apply below_alloc | apply pw_below_drewN | apply below_drew1) | exact HB.out)))); have n1_ := Aside0.mk (below_step (by repeat (first | (with_reducible first | exact HB.out | apply below_alloc | apply pw_below_drewN | apply below_drew1) | exact HB.out)) hb); clear HB; have HO270 := n0_; have HB := n1_; clear n0_ n1_; (try clear hb); (try clear hb2); (try clear hk); (try clear hi); (try clear ho0); obtain ⟨i017, hi017, _, hsz17, _⟩ := info_parts info9; obtain ⟨hcut17, hA17, hC17⟩ := print_take_of (P := Try.prog) Value.string (⟨#[]⟩ : ByteArray) 22 9 .i64 Try.underlying22 hi017 hsz17 A0 c0 l0 t265 (of_decide_eq_true (by first | (with_reducible assumption) | assumption)) (of_decide_eq_true (by first | (with_reducible assumption) | assumption)) HC0.out; have HR271 := Aside0.mk (Kd.C_of_reads (h1 := fun _ => rfl) (hA17 _ (Kd.reads_of_C HR0.out))); have HC271 := Aside0.mk hC17; clear hA17 hC17 hi017 hsz17; obtain ⟨Ao18, co18, eo18⟩ := Kd.R_slice HO270.out; subst eo18) | (go_at_call 17; (try rw [show ∀ (A_ : Option Addr) (c_ : Nat), Value.slice A_ (t265 : Int).toNat c_ = Value.slice A_ (l0.take (t265 : Int).toNat).length c_ from fun A_ c_ => by rw [List.length_take]; congr 1; have h1_ : t265 ≤ (l0.length : Int) := of_decide_eq_true (by assumption); have h0_ : 0 ≤ t265 := of_decide_eq_true (by assumption); omega]); (with_reducible refine (stevedorelaw04_texts.calls k _ _ t267 _ _ (l0.take (t265 : Int).toNat) true _ ?side1 ?side2 ?side3 ?side4 A14.out).mono ?_); (case side1 => repeat (first | exact (Kd.R_reads' HO270.out).2.2 | (with_reducible refine Kd.C_alloc ?_ _) | (with_reducible refine Kd.C_drewN ?_ _) | (with_reducible refine Kd.C_drew ?_))); (case side2 => exact (Kd.R_reads' HO270.out).2.1); (case side3 => repeat (first | exact (Kd.C_below HR271.out HB.out) | (with_reducible refine Kd.C_alloc ?_ _) | (with_reducible refine Kd.C_drewN ?_ _) | (with_reducible refine Kd.C_drew ?_))); (case side4 => exact HC271.out); rintro e w' ⟨rfl, ⟨nd, rfl⟩⟩))
                  go_meet
                  case rel => exact ⟨_, H', ⟨by first | omega | exact Nat.le_refl _⟩, ⟨by repeat (first | (with_reducible first | exact HB.out | apply below_alloc | apply pw_below_drewN | apply below_drew1) | exact HB.out)⟩⟩
                · replace c15 := Bool.eq_false_iff.mpr c15
                  subst c15
                  have H1 : (some false) = some r := by rw [if_neg (show ¬ (false = true) by decide)] at H; exact H
                  clear H
                  have H := H1
                  clear H1
                  obtain rfl := Option.some.inj H
                  go_wp2_with (first | ((with_reducible refine gate_callee (f := 13) rfl ?_); refine goesL_ (some 24) rfl rfl Try.func13 (by kernel_rfl) rfl #[.int .i64 t263, .string t264] rfl (by (try simp only [List.map_toArray, List.map_cons, List.map_nil]); first | done | rfl | (simp only [List.length_drop, List.length_take]; rfl)) ?_; (with_reducible refine (frames_Lay.calls k t263 t264 t267 t268 _ A6.out).mono ?_); rintro e w19 ⟨v269, rfl, ho0, hb⟩; refine ⟨_, rfl, ?_⟩; have n0_ := Aside0.mk (Kd.R_lower ho0 (below_size (by repeat (first | (with_reducible first | exact HB.out | apply below_alloc | apply pw_below_drewN | apply below_drew1) | exact HB.out)))); have n1_ := Aside0.mk (below_step (by repeat (first | (with_reducible first | exact HB.out | apply below_alloc | apply pw_below_drewN | apply below_drew1) | exact HB.out)) hb); clear HB; have HO270 := n0_; have HB := n1_; clear n0_ n1_; (try clear hb); (try clear hb2); (try clear hk); (try clear hi); (try clear ho0); obtain ⟨i020, hi020, _, hsz20, _⟩ := info_parts info9; obtain ⟨hcut20, hA20, hC20⟩ := print_take_of (P := Try.prog) Value.string (⟨#[]⟩ : ByteArray) 22 9 .i64 Try.underlying22 hi020 hsz20 A0 c0 l0 t265 (of_decide_eq_true (by first | (with_reducible assumption) | assumption)) (of_decide_eq_true (by first | (with_reducible assumption) | assumption)) HC0.out; have HR271 := Aside0.mk (Kd.C_of_reads (h1 := fun _ => rfl) (hA20 _ (Kd.reads_of_C HR0.out))); have HC271 := Aside0.mk hC20; clear hA20 hC20 hi020 hsz20; obtain ⟨Ao21, co21, eo21⟩ := Kd.R_slice HO270.out; subst eo21) | (go_at_call 17; (try rw [show ∀ (A_ : Option Addr) (c_ : Nat), Value.slice A_ (t265 : Int).toNat c_ = Value.slice A_ (l0.take (t265 : Int).toNat).length c_ from fun A_ c_ => by rw [List.length_take]; congr 1; have h1_ : t265 ≤ (l0.length : Int) := of_decide_eq_true (by assumption); have h0_ : 0 ≤ t265 := of_decide_eq_true (by assumption); omega]); (with_reducible refine (stevedorelaw04_texts.calls k _ _ t267 _ _ (l0.take (t265 : Int).toNat) false _ ?side1 ?side2 ?side3 ?side4 A14.out).mono ?_); (case side1 => repeat (first | exact (Kd.R_reads' HO270.out).2.2 | (with_reducible refine Kd.C_alloc ?_ _) | (with_reducible refine Kd.C_drewN ?_ _) | (with_reducible refine Kd.C_drew ?_))); (case side2 => exact (Kd.R_reads' HO270.out).2.1); (case side3 => repeat (first | exact (Kd.C_below HR271.out HB.out) | (with_reducible refine Kd.C_alloc ?_ _) | (with_reducible refine Kd.C_drewN ?_ _) | (with_reducible refine Kd.C_drew ?_))); (case side4 => exact HC271.out); rintro e w' ⟨rfl, ⟨nd, rfl⟩⟩))
                  go_ret
                  exact ⟨by first | rfl | (simp [errW_none, errW_some] <;> rfl) | (simp [*, errW_none, errW_some] <;> rfl), by repeat (first | (with_reducible first | exact HB.out | apply below_alloc | apply pw_below_drewN | apply below_drew1) | exact HB.out)⟩
              · rw [if_neg c13] at H
                exact absurd H (by simp)
            · rw [if_neg c12] at H
              exact absurd H (by simp)
      · rw [if_neg c7] at H
        have c7b0 : (t268 == 0) = false := beq_eq_false_iff_ne.mpr c7
        have c7b1 : (t268 != 0) = true := bne_iff_ne.mpr c7
        obtain rfl := Option.some.inj H
        go_wp2_with (first | ((with_reducible refine gate_callee (f := 13) rfl ?_); refine goesL_ (some 24) rfl rfl Try.func13 (by kernel_rfl) rfl #[.int .i64 t263, .string t264] rfl (by (try simp only [List.map_toArray, List.map_cons, List.map_nil]); first | done | rfl | (simp only [List.length_drop, List.length_take]; rfl)) ?_; (with_reducible refine (frames_Lay.calls k t263 t264 t267 t268 _ A6.out).mono ?_); rintro e w22 ⟨v269, rfl, ho0, hb⟩; refine ⟨_, rfl, ?_⟩; have n0_ := Aside0.mk (Kd.R_lower ho0 (below_size (by repeat (first | (with_reducible first | exact HB.out | apply below_alloc | apply pw_below_drewN | apply below_drew1) | exact HB.out)))); have n1_ := Aside0.mk (below_step (by repeat (first | (with_reducible first | exact HB.out | apply below_alloc | apply pw_below_drewN | apply below_drew1) | exact HB.out)) hb); clear HB; have HO270 := n0_; have HB := n1_; clear n0_ n1_; (try clear hb); (try clear hb2); (try clear hk); (try clear hi); (try clear ho0)))
        go_ret
        exact ⟨by first | rfl | (simp [errW_none, errW_some] <;> rfl) | (simp [*, errW_none, errW_some] <;> rfl), by repeat (first | (with_reducible first | exact HB.out | apply below_alloc | apply pw_below_drewN | apply below_drew1) | exact HB.out)⟩
    · rw [if_neg c5] at H
      have c5b0 : (t266 == 0) = false := beq_eq_false_iff_ne.mpr c5
      have c5b1 : (t266 != 0) = true := bne_iff_ne.mpr c5
      (first | rw [c5b0] | (simp only [i64_w, i32_w]; rw [c5b0]) | skip)
      by_cases c23 : t266 = 43
      · rw [if_pos c23] at H
        have c23b0 : (t266 == 43) = true := beq_iff_eq.mpr c23
        have c23b1 : (t266 != 43) = false := bne_eq_false_iff_eq.mpr c23
        clear c23
        by_cases c24 : t263 = 0
        · rw [if_pos c24] at H
          have c24b0 : (t263 == 0) = true := beq_iff_eq.mpr c24
          have c24b1 : (t263 != 0) = false := bne_eq_false_iff_eq.mpr c24
          clear c24
          by_cases c25 : t264.toList = ([] : List UInt8)
          · rw [if_pos c25] at H
            have c25b0 : (t264.toList == ([] : List UInt8)) = true := beq_iff_eq.mpr c25
            have c25b1 : (t264.toList != ([] : List UInt8)) = false := bne_eq_false_iff_eq.mpr c25
            clear c25
            by_cases c26 : t265 = 0
            · rw [if_pos c26] at H
              have c26b0 : (t265 == 0) = true := beq_iff_eq.mpr c26
              have c26b1 : (t265 != 0) = false := bne_eq_false_iff_eq.mpr c26
              clear c26
              have H' := Aside0.mk H
              clear H
              go_wp2
              go_meet
              case rel => exact ⟨_, H', ⟨by first | omega | exact Nat.le_refl _⟩, ⟨by repeat (first | (with_reducible first | exact HB.out | apply below_alloc | apply pw_below_drewN | apply below_drew1) | exact HB.out)⟩⟩
            · rw [if_neg c26] at H
              have c26b0 : (t265 == 0) = false := beq_eq_false_iff_ne.mpr c26
              have c26b1 : (t265 != 0) = true := bne_iff_ne.mpr c26
              obtain rfl := Option.some.inj H
              go_wp2
              go_ret
              exact ⟨by first | rfl | (simp [errW_none, errW_some] <;> rfl) | (simp [*, errW_none, errW_some] <;> rfl), by repeat (first | (with_reducible first | exact HB.out | apply below_alloc | apply pw_below_drewN | apply below_drew1) | exact HB.out)⟩
          · rw [if_neg c25] at H
            have c25b0 : (t264.toList == ([] : List UInt8)) = false := beq_eq_false_iff_ne.mpr c25
            have c25b1 : (t264.toList != ([] : List UInt8)) = true := bne_iff_ne.mpr c25
            obtain rfl := Option.some.inj H
            go_wp2
            go_ret
            exact ⟨by first | rfl | (simp [errW_none, errW_some] <;> rfl) | (simp [*, errW_none, errW_some] <;> rfl), by repeat (first | (with_reducible first | exact HB.out | apply below_alloc | apply pw_below_drewN | apply below_drew1) | exact HB.out)⟩
        · rw [if_neg c24] at H
          have c24b0 : (t263 == 0) = false := beq_eq_false_iff_ne.mpr c24
          have c24b1 : (t263 != 0) = true := bne_iff_ne.mpr c24
          obtain rfl := Option.some.inj H
          go_wp2
          go_ret
          exact ⟨by first | rfl | (simp [errW_none, errW_some] <;> rfl) | (simp [*, errW_none, errW_some] <;> rfl), by repeat (first | (with_reducible first | exact HB.out | apply below_alloc | apply pw_below_drewN | apply below_drew1) | exact HB.out)⟩
      · rw [if_neg c23] at H
        have c23b0 : (t266 == 43) = false := beq_eq_false_iff_ne.mpr c23
        have c23b1 : (t266 != 43) = true := bne_iff_ne.mpr c23
        obtain rfl := Option.some.inj H
        go_wp2
        go_ret
        exact ⟨by first | rfl | (simp [errW_none, errW_some] <;> rfl) | (simp [*, errW_none, errW_some] <;> rfl), by repeat (first | (with_reducible first | exact HB.out | apply below_alloc | apply pw_below_drewN | apply below_drew1) | exact HB.out)⟩
  case rest =>
    clear HC3
    try clear c1
    try clear c2
    try clear p2
    try clear c5
    try clear c5b0
    try clear c5b1
    try clear c6
    try clear c7
    try clear c7b0
    try clear c7b1
    try clear c8
    try clear c8b0
    try clear c10
    try clear c10b0
    try clear c12
    try clear c12b0
    try clear c12b1
    try clear c13
    try clear c13b0
    try clear c13b1
    try clear c15
    try clear c19
    try clear c23
    try clear c23b0
    try clear c23b1
    try clear c24
    try clear c24b0
    try clear c24b1
    try clear c25
    try clear c25b0
    try clear c25b1
    try clear c26
    try clear c26b0
    try clear c26b1
    obtain ⟨kq, HA, HJ2, HB⟩ := hcut
    cases kq with
    | zero => exact absurd HA.out (by simp [stevedorelaw04_FramesThere.j0])
    | succ kj2 =>
      have H := HA.out
      clear HA
      simp only [stevedorelaw04_FramesThere.j0] at H
      have H' := Aside0.mk H
      clear H
      go_wp2
      go_loopg [9] kj2 (fun kq v9 w' => ∃ (x9_2 : Int), v9 = .int .i64 x9_2 ∧ Aside0 (stevedorelaw04_FramesThere.l0 kq l0 x9_2 = some r) ∧ Aside0 (kq ≤ kj2) ∧ Aside0 (Below w.heap.size w w'))
      case atStart => exact ⟨(0), (by first | rfl | (simp; done) | (simp [*]; done)), H', ⟨Nat.le_refl _⟩, ⟨by repeat (first | (with_reducible first | exact HB.out | apply below_alloc | apply pw_below_drewN | apply below_drew1) | exact HB.out)⟩⟩
      case round =>
        clear H'
        try clear c1
        try clear c2
        try clear p2
        try clear c5
        try clear c5b0
        try clear c5b1
        try clear c6
        try clear c7
        try clear c7b0
        try clear c7b1
        try clear c8
        try clear c8b0
        try clear c10
        try clear c10b0
        try clear c12
        try clear c12b0
        try clear c12b1
        try clear c13
        try clear c13b0
        try clear c13b1
        try clear c15
        try clear c19
        try clear c23
        try clear c23b0
        try clear c23b1
        try clear c24
        try clear c24b0
        try clear c24b1
        try clear c25
        try clear c25b0
        try clear c25b1
        try clear c26
        try clear c26b0
        try clear c26b1
        try clear p2
        obtain ⟨x9_2, rfl, HA, HK2, HB⟩ := hrel
        cases gk with
        | zero => exact absurd HA.out (by simp [stevedorelaw04_FramesThere.l0])
        | succ k2 =>
          have H := HA.out
          clear HA
          simp only [stevedorelaw04_FramesThere.l0] at H
          by_cases c27 : x9_2 < (l0.length : Int)
          · rw [if_pos c27] at H
            have c27b0 : decide (x9_2 < (l0.length : Int)) = true := decide_eq_true c27
            clear c27
            by_cases c28 : 0 ≤ x9_2
            · rw [if_pos c28] at H
              have c28b0 : decide (0 ≤ x9_2) = true := decide_eq_true c28
              clear c28
              replace H := Option.bind_eq_some_iff.mp H
              obtain ⟨⟨t274, t275, t276, t277, t278⟩, A290, H⟩ := H
              replace H : (if t278 = 0 then (if t274 < 1 then (some false) else (if t275 < 0 then (some false) else (if t275 ≥ t276 then (some false) else (if t276 > 8 then (some false) else (if (t277.size : Int) > 55 then (some false) else (stevedorelaw04_FramesThere.l0 k2 l0 (wrap64 (x9_2 + 1)))))))) else (stevedorelaw04_FramesThere.l0 k2 l0 (wrap64 (x9_2 + 1)))) = some r := H
              have A29 := Aside0.mk A290
              clear A290
              by_cases c30 : t278 = 0
              · rw [if_pos c30] at H
                have c30b0 : (t278 == 0) = true := beq_iff_eq.mpr c30
                have c30b1 : (t278 != 0) = false := bne_eq_false_iff_eq.mpr c30
                clear c30
                by_cases c31 : t274 < 1
                · rw [if_pos c31] at H
                  have c31b0 : decide (t274 < 1) = true := decide_eq_true c31
                  clear c31
                  obtain rfl := Option.some.inj H
                  have p273 : 0 ≤ (x9_2 : Int) := of_decide_eq_true (by first | (with_reducible assumption) | assumption)
                  have q273 : x9_2 < (l0.length : Int) := of_decide_eq_true (by first | (with_reducible assumption) | assumption)
                  obtain ⟨ad273, e273, hx273_0⟩ := Kd.at_string HR0.out x9_2 p273 q273
                  cases e273
                  replace hx273_0 := (HB.out.cell (World.block_lt_of_cell? w _ hx273_0)).trans hx273_0
                  replace p273 := eq_true p273
                  replace q273 := eq_true q273
                  go_wp2_with (first | ((with_reducible refine gate_callee (f := 15) rfl ?_); refine goesL_ (some 72) rfl rfl Try.func15 (by kernel_rfl) rfl #[.string (rdOf ByteArray.empty l0 x9_2)] rfl (by (try simp only [List.map_toArray, List.map_cons, List.map_nil]); first | done | rfl | (simp only [List.length_drop, List.length_take]; rfl)) ?_; (with_reducible refine (frames_Tell.calls k2 (rdOf ByteArray.empty l0 x9_2) t274 t275 t276 t277 t278 _ A29.out).mono ?_); rintro e w32 ⟨rfl, hb⟩; refine ⟨_, rfl, ?_⟩; have n0_ := Aside0.mk (below_step (by repeat (first | (with_reducible first | exact HB.out | apply below_alloc | apply pw_below_drewN | apply below_drew1) | exact HB.out)) hb); clear HB; have HB := n0_; clear n0_; (try clear hb); (try clear hb2); (try clear hk); (try clear hi)) | ((with_reducible refine gate_dst (N := 10) rfl ?_); (try (refine gate_guard (by rfl) ?_; dsimp only)); refine box_event ?hg (N := 10) ?hd (cs := #[.int .i64 0, .int .i64 0, .int .i64 0, .string (⟨#[]⟩ : ByteArray)]) (t := 27) ?hr ?_; (case hd => rfl); (case hg => rfl); (case hr => first | (go_simp; done) | (go_simp; rfl)); intro gb279 hg w33 hbox hb; have n0_ := Aside0.mk (below_step (by repeat (first | (with_reducible first | exact HB.out | apply below_alloc | apply pw_below_drewN | apply below_drew1) | exact HB.out)) hb); have n1_ := Aside0.mk (hbox); have n2_ := Aside0.mk ((by rw [hg]; exact (below_size (by repeat (first | (with_reducible first | exact HB.out | apply below_alloc | apply pw_below_drewN | apply below_drew1) | exact HB.out))) : w.heap.size ≤ gb279)); have n3_ := Aside0.mk ((by rw [hg]; exact (below_size (by repeat (first | (with_reducible first | exact HB.out | apply below_alloc | apply pw_below_drewN | apply below_drew1) | exact HB.out))) : w.heap.size ≤ gb279)); clear HB; have HB := n0_; have BK279 := n1_; have GW279 := n2_; have GE279 := n3_; clear n0_ n1_ n2_ n3_; clear hb hbox hg; have hcz34_0 : w33.cell? ⟨gb279, 0, none⟩ = some (.int .i64 0) := (blk_cell BK279.out 0).trans rfl; have hcz34_1 : w33.cell? ⟨gb279, 1, none⟩ = some (.int .i64 0) := (blk_cell BK279.out 1).trans rfl; have hcz34_2 : w33.cell? ⟨gb279, 2, none⟩ = some (.int .i64 0) := (blk_cell BK279.out 2).trans rfl; have hcz34_3 : w33.cell? ⟨gb279, 3, none⟩ = some (.string (⟨#[]⟩ : ByteArray)) := (blk_cell BK279.out 3).trans rfl; have hfz34_0 := blk_frozen BK279.out 0; have hfz34_1 := blk_frozen BK279.out 1; have hfz34_2 := blk_frozen BK279.out 2; have hfz34_3 := blk_frozen BK279.out 3))
                  go_ret
                  exact ⟨by first | rfl | (simp [errW_none, errW_some] <;> rfl) | (simp [*, errW_none, errW_some] <;> rfl), by repeat (first | (with_reducible first | exact HB.out | apply below_alloc | apply pw_below_drewN | apply below_drew1 | refine below_set ?_ GE279.out) | exact HB.out)⟩
                · rw [if_neg c31] at H
                  have c31b0 : decide (t274 < 1) = false := decide_eq_false c31
                  clear c31
                  by_cases c35 : t275 < 0
                  · rw [if_pos c35] at H
                    have c35b0 : decide (t275 < 0) = true := decide_eq_true c35
                    clear c35
                    obtain rfl := Option.some.inj H
                    have p273 : 0 ≤ (x9_2 : Int) := of_decide_eq_true (by first | (with_reducible assumption) | assumption)
                    have q273 : x9_2 < (l0.length : Int) := of_decide_eq_true (by first | (with_reducible assumption) | assumption)
                    obtain ⟨ad273, e273, hx273_0⟩ := Kd.at_string HR0.out x9_2 p273 q273
                    cases e273
                    replace hx273_0 := (HB.out.cell (World.block_lt_of_cell? w _ hx273_0)).trans hx273_0
                    replace p273 := eq_true p273
                    replace q273 := eq_true q273
                    go_wp2_with (first | ((with_reducible refine gate_callee (f := 15) rfl ?_); refine goesL_ (some 72) rfl rfl Try.func15 (by kernel_rfl) rfl #[.string (rdOf ByteArray.empty l0 x9_2)] rfl (by (try simp only [List.map_toArray, List.map_cons, List.map_nil]); first | done | rfl | (simp only [List.length_drop, List.length_take]; rfl)) ?_; (with_reducible refine (frames_Tell.calls k2 (rdOf ByteArray.empty l0 x9_2) t274 t275 t276 t277 t278 _ A29.out).mono ?_); rintro e w36 ⟨rfl, hb⟩; refine ⟨_, rfl, ?_⟩; have n0_ := Aside0.mk (below_step (by repeat (first | (with_reducible first | exact HB.out | apply below_alloc | apply pw_below_drewN | apply below_drew1) | exact HB.out)) hb); clear HB; have HB := n0_; clear n0_; (try clear hb); (try clear hb2); (try clear hk); (try clear hi)) | ((with_reducible refine gate_dst (N := 10) rfl ?_); (try (refine gate_guard (by rfl) ?_; dsimp only)); refine box_event ?hg (N := 10) ?hd (cs := #[.int .i64 0, .int .i64 0, .int .i64 0, .string (⟨#[]⟩ : ByteArray)]) (t := 27) ?hr ?_; (case hd => rfl); (case hg => rfl); (case hr => first | (go_simp; done) | (go_simp; rfl)); intro gb279 hg w37 hbox hb; have n0_ := Aside0.mk (below_step (by repeat (first | (with_reducible first | exact HB.out | apply below_alloc | apply pw_below_drewN | apply below_drew1) | exact HB.out)) hb); have n1_ := Aside0.mk (hbox); have n2_ := Aside0.mk ((by rw [hg]; exact (below_size (by repeat (first | (with_reducible first | exact HB.out | apply below_alloc | apply pw_below_drewN | apply below_drew1) | exact HB.out))) : w.heap.size ≤ gb279)); have n3_ := Aside0.mk ((by rw [hg]; exact (below_size (by repeat (first | (with_reducible first | exact HB.out | apply below_alloc | apply pw_below_drewN | apply below_drew1) | exact HB.out))) : w.heap.size ≤ gb279)); clear HB; have HB := n0_; have BK279 := n1_; have GW279 := n2_; have GE279 := n3_; clear n0_ n1_ n2_ n3_; clear hb hbox hg; have hcz38_0 : w37.cell? ⟨gb279, 0, none⟩ = some (.int .i64 0) := (blk_cell BK279.out 0).trans rfl; have hcz38_1 : w37.cell? ⟨gb279, 1, none⟩ = some (.int .i64 0) := (blk_cell BK279.out 1).trans rfl; have hcz38_2 : w37.cell? ⟨gb279, 2, none⟩ = some (.int .i64 0) := (blk_cell BK279.out 2).trans rfl; have hcz38_3 : w37.cell? ⟨gb279, 3, none⟩ = some (.string (⟨#[]⟩ : ByteArray)) := (blk_cell BK279.out 3).trans rfl; have hfz38_0 := blk_frozen BK279.out 0; have hfz38_1 := blk_frozen BK279.out 1; have hfz38_2 := blk_frozen BK279.out 2; have hfz38_3 := blk_frozen BK279.out 3))
                    go_ret
                    exact ⟨by first | rfl | (simp [errW_none, errW_some] <;> rfl) | (simp [*, errW_none, errW_some] <;> rfl), by repeat (first | (with_reducible first | exact HB.out | apply below_alloc | apply pw_below_drewN | apply below_drew1 | refine below_set ?_ GE279.out) | exact HB.out)⟩
                  · rw [if_neg c35] at H
                    have c35b0 : decide (t275 < 0) = false := decide_eq_false c35
                    clear c35
                    by_cases c39 : t275 ≥ t276
                    · rw [if_pos c39] at H
                      have c39b0 : decide (t276 ≤ t275) = true := decide_eq_true c39
                      clear c39
                      obtain rfl := Option.some.inj H
                      have p273 : 0 ≤ (x9_2 : Int) := of_decide_eq_true (by first | (with_reducible assumption) | assumption)
                      have q273 : x9_2 < (l0.length : Int) := of_decide_eq_true (by first | (with_reducible assumption) | assumption)
                      obtain ⟨ad273, e273, hx273_0⟩ := Kd.at_string HR0.out x9_2 p273 q273
                      cases e273
                      replace hx273_0 := (HB.out.cell (World.block_lt_of_cell? w _ hx273_0)).trans hx273_0
                      replace p273 := eq_true p273
                      replace q273 := eq_true q273
                      go_wp2_with (first | ((with_reducible refine gate_callee (f := 15) rfl ?_); refine goesL_ (some 72) rfl rfl Try.func15 (by kernel_rfl) rfl #[.string (rdOf ByteArray.empty l0 x9_2)] rfl (by (try simp only [List.map_toArray, List.map_cons, List.map_nil]); first | done | rfl | (simp only [List.length_drop, List.length_take]; rfl)) ?_; (with_reducible refine (frames_Tell.calls k2 (rdOf ByteArray.empty l0 x9_2) t274 t275 t276 t277 t278 _ A29.out).mono ?_); rintro e w40 ⟨rfl, hb⟩; refine ⟨_, rfl, ?_⟩; have n0_ := Aside0.mk (below_step (by repeat (first | (with_reducible first | exact HB.out | apply below_alloc | apply pw_below_drewN | apply below_drew1) | exact HB.out)) hb); clear HB; have HB := n0_; clear n0_; (try clear hb); (try clear hb2); (try clear hk); (try clear hi)) | ((with_reducible refine gate_dst (N := 10) rfl ?_); (try (refine gate_guard (by rfl) ?_; dsimp only)); refine box_event ?hg (N := 10) ?hd (cs := #[.int .i64 0, .int .i64 0, .int .i64 0, .string (⟨#[]⟩ : ByteArray)]) (t := 27) ?hr ?_; (case hd => rfl); (case hg => rfl); (case hr => first | (go_simp; done) | (go_simp; rfl)); intro gb279 hg w41 hbox hb; have n0_ := Aside0.mk (below_step (by repeat (first | (with_reducible first | exact HB.out | apply below_alloc | apply pw_below_drewN | apply below_drew1) | exact HB.out)) hb); have n1_ := Aside0.mk (hbox); have n2_ := Aside0.mk ((by rw [hg]; exact (below_size (by repeat (first | (with_reducible first | exact HB.out | apply below_alloc | apply pw_below_drewN | apply below_drew1) | exact HB.out))) : w.heap.size ≤ gb279)); have n3_ := Aside0.mk ((by rw [hg]; exact (below_size (by repeat (first | (with_reducible first | exact HB.out | apply below_alloc | apply pw_below_drewN | apply below_drew1) | exact HB.out))) : w.heap.size ≤ gb279)); clear HB; have HB := n0_; have BK279 := n1_; have GW279 := n2_; have GE279 := n3_; clear n0_ n1_ n2_ n3_; clear hb hbox hg; have hcz42_0 : w41.cell? ⟨gb279, 0, none⟩ = some (.int .i64 0) := (blk_cell BK279.out 0).trans rfl; have hcz42_1 : w41.cell? ⟨gb279, 1, none⟩ = some (.int .i64 0) := (blk_cell BK279.out 1).trans rfl; have hcz42_2 : w41.cell? ⟨gb279, 2, none⟩ = some (.int .i64 0) := (blk_cell BK279.out 2).trans rfl; have hcz42_3 : w41.cell? ⟨gb279, 3, none⟩ = some (.string (⟨#[]⟩ : ByteArray)) := (blk_cell BK279.out 3).trans rfl; have hfz42_0 := blk_frozen BK279.out 0; have hfz42_1 := blk_frozen BK279.out 1; have hfz42_2 := blk_frozen BK279.out 2; have hfz42_3 := blk_frozen BK279.out 3))
                      go_ret
                      exact ⟨by first | rfl | (simp [errW_none, errW_some] <;> rfl) | (simp [*, errW_none, errW_some] <;> rfl), by repeat (first | (with_reducible first | exact HB.out | apply below_alloc | apply pw_below_drewN | apply below_drew1 | refine below_set ?_ GE279.out) | exact HB.out)⟩
                    · rw [if_neg c39] at H
                      have c39b0 : decide (t276 ≤ t275) = false := decide_eq_false c39
                      clear c39
                      by_cases c43 : t276 > 8
                      · rw [if_pos c43] at H
                        have c43b0 : decide (8 < t276) = true := decide_eq_true c43
                        clear c43
                        obtain rfl := Option.some.inj H
                        have p273 : 0 ≤ (x9_2 : Int) := of_decide_eq_true (by first | (with_reducible assumption) | assumption)
                        have q273 : x9_2 < (l0.length : Int) := of_decide_eq_true (by first | (with_reducible assumption) | assumption)
                        obtain ⟨ad273, e273, hx273_0⟩ := Kd.at_string HR0.out x9_2 p273 q273
                        cases e273
                        replace hx273_0 := (HB.out.cell (World.block_lt_of_cell? w _ hx273_0)).trans hx273_0
                        replace p273 := eq_true p273
                        replace q273 := eq_true q273
                        go_wp2_with (first | ((with_reducible refine gate_callee (f := 15) rfl ?_); refine goesL_ (some 72) rfl rfl Try.func15 (by kernel_rfl) rfl #[.string (rdOf ByteArray.empty l0 x9_2)] rfl (by (try simp only [List.map_toArray, List.map_cons, List.map_nil]); first | done | rfl | (simp only [List.length_drop, List.length_take]; rfl)) ?_; (with_reducible refine (frames_Tell.calls k2 (rdOf ByteArray.empty l0 x9_2) t274 t275 t276 t277 t278 _ A29.out).mono ?_); rintro e w44 ⟨rfl, hb⟩; refine ⟨_, rfl, ?_⟩; have n0_ := Aside0.mk (below_step (by repeat (first | (with_reducible first | exact HB.out | apply below_alloc | apply pw_below_drewN | apply below_drew1) | exact HB.out)) hb); clear HB; have HB := n0_; clear n0_; (try clear hb); (try clear hb2); (try clear hk); (try clear hi)) | ((with_reducible refine gate_dst (N := 10) rfl ?_); (try (refine gate_guard (by rfl) ?_; dsimp only)); refine box_event ?hg (N := 10) ?hd (cs := #[.int .i64 0, .int .i64 0, .int .i64 0, .string (⟨#[]⟩ : ByteArray)]) (t := 27) ?hr ?_; (case hd => rfl); (case hg => rfl); (case hr => first | (go_simp; done) | (go_simp; rfl)); intro gb279 hg w45 hbox hb; have n0_ := Aside0.mk (below_step (by repeat (first | (with_reducible first | exact HB.out | apply below_alloc | apply pw_below_drewN | apply below_drew1) | exact HB.out)) hb); have n1_ := Aside0.mk (hbox); have n2_ := Aside0.mk ((by rw [hg]; exact (below_size (by repeat (first | (with_reducible first | exact HB.out | apply below_alloc | apply pw_below_drewN | apply below_drew1) | exact HB.out))) : w.heap.size ≤ gb279)); have n3_ := Aside0.mk ((by rw [hg]; exact (below_size (by repeat (first | (with_reducible first | exact HB.out | apply below_alloc | apply pw_below_drewN | apply below_drew1) | exact HB.out))) : w.heap.size ≤ gb279)); clear HB; have HB := n0_; have BK279 := n1_; have GW279 := n2_; have GE279 := n3_; clear n0_ n1_ n2_ n3_; clear hb hbox hg; have hcz46_0 : w45.cell? ⟨gb279, 0, none⟩ = some (.int .i64 0) := (blk_cell BK279.out 0).trans rfl; have hcz46_1 : w45.cell? ⟨gb279, 1, none⟩ = some (.int .i64 0) := (blk_cell BK279.out 1).trans rfl; have hcz46_2 : w45.cell? ⟨gb279, 2, none⟩ = some (.int .i64 0) := (blk_cell BK279.out 2).trans rfl; have hcz46_3 : w45.cell? ⟨gb279, 3, none⟩ = some (.string (⟨#[]⟩ : ByteArray)) := (blk_cell BK279.out 3).trans rfl; have hfz46_0 := blk_frozen BK279.out 0; have hfz46_1 := blk_frozen BK279.out 1; have hfz46_2 := blk_frozen BK279.out 2; have hfz46_3 := blk_frozen BK279.out 3))
                        go_ret
                        exact ⟨by first | rfl | (simp [errW_none, errW_some] <;> rfl) | (simp [*, errW_none, errW_some] <;> rfl), by repeat (first | (with_reducible first | exact HB.out | apply below_alloc | apply pw_below_drewN | apply below_drew1 | refine below_set ?_ GE279.out) | exact HB.out)⟩
                      · rw [if_neg c43] at H
                        have c43b0 : decide (8 < t276) = false := decide_eq_false c43
                        clear c43
                        by_cases c47 : (t277.size : Int) > 55
                        · rw [if_pos c47] at H
                          have c47b0 : decide (55 < (t277.size : Int)) = true := decide_eq_true c47
                          have c47b1 : decide (55 < t277.size) = true := decide_eq_true (by omega)
                          clear c47
                          obtain rfl := Option.some.inj H
                          have p273 : 0 ≤ (x9_2 : Int) := of_decide_eq_true (by first | (with_reducible assumption) | assumption)
                          have q273 : x9_2 < (l0.length : Int) := of_decide_eq_true (by first | (with_reducible assumption) | assumption)
                          obtain ⟨ad273, e273, hx273_0⟩ := Kd.at_string HR0.out x9_2 p273 q273
                          cases e273
                          replace hx273_0 := (HB.out.cell (World.block_lt_of_cell? w _ hx273_0)).trans hx273_0
                          replace p273 := eq_true p273
                          replace q273 := eq_true q273
                          go_wp2_with (first | ((with_reducible refine gate_callee (f := 15) rfl ?_); refine goesL_ (some 72) rfl rfl Try.func15 (by kernel_rfl) rfl #[.string (rdOf ByteArray.empty l0 x9_2)] rfl (by (try simp only [List.map_toArray, List.map_cons, List.map_nil]); first | done | rfl | (simp only [List.length_drop, List.length_take]; rfl)) ?_; (with_reducible refine (frames_Tell.calls k2 (rdOf ByteArray.empty l0 x9_2) t274 t275 t276 t277 t278 _ A29.out).mono ?_); rintro e w48 ⟨rfl, hb⟩; refine ⟨_, rfl, ?_⟩; have n0_ := Aside0.mk (below_step (by repeat (first | (with_reducible first | exact HB.out | apply below_alloc | apply pw_below_drewN | apply below_drew1) | exact HB.out)) hb); clear HB; have HB := n0_; clear n0_; (try clear hb); (try clear hb2); (try clear hk); (try clear hi)) | ((with_reducible refine gate_dst (N := 10) rfl ?_); (try (refine gate_guard (by rfl) ?_; dsimp only)); refine box_event ?hg (N := 10) ?hd (cs := #[.int .i64 0, .int .i64 0, .int .i64 0, .string (⟨#[]⟩ : ByteArray)]) (t := 27) ?hr ?_; (case hd => rfl); (case hg => rfl); (case hr => first | (go_simp; done) | (go_simp; rfl)); intro gb279 hg w49 hbox hb; have n0_ := Aside0.mk (below_step (by repeat (first | (with_reducible first | exact HB.out | apply below_alloc | apply pw_below_drewN | apply below_drew1) | exact HB.out)) hb); have n1_ := Aside0.mk (hbox); have n2_ := Aside0.mk ((by rw [hg]; exact (below_size (by repeat (first | (with_reducible first | exact HB.out | apply below_alloc | apply pw_below_drewN | apply below_drew1) | exact HB.out))) : w.heap.size ≤ gb279)); have n3_ := Aside0.mk ((by rw [hg]; exact (below_size (by repeat (first | (with_reducible first | exact HB.out | apply below_alloc | apply pw_below_drewN | apply below_drew1) | exact HB.out))) : w.heap.size ≤ gb279)); clear HB; have HB := n0_; have BK279 := n1_; have GW279 := n2_; have GE279 := n3_; clear n0_ n1_ n2_ n3_; clear hb hbox hg; have hcz50_0 : w49.cell? ⟨gb279, 0, none⟩ = some (.int .i64 0) := (blk_cell BK279.out 0).trans rfl; have hcz50_1 : w49.cell? ⟨gb279, 1, none⟩ = some (.int .i64 0) := (blk_cell BK279.out 1).trans rfl; have hcz50_2 : w49.cell? ⟨gb279, 2, none⟩ = some (.int .i64 0) := (blk_cell BK279.out 2).trans rfl; have hcz50_3 : w49.cell? ⟨gb279, 3, none⟩ = some (.string (⟨#[]⟩ : ByteArray)) := (blk_cell BK279.out 3).trans rfl; have hfz50_0 := blk_frozen BK279.out 0; have hfz50_1 := blk_frozen BK279.out 1; have hfz50_2 := blk_frozen BK279.out 2; have hfz50_3 := blk_frozen BK279.out 3))
                          go_ret
                          exact ⟨by first | rfl | (simp [errW_none, errW_some] <;> rfl) | (simp [*, errW_none, errW_some] <;> rfl), by repeat (first | (with_reducible first | exact HB.out | apply below_alloc | apply pw_below_drewN | apply below_drew1 | refine below_set ?_ GE279.out) | exact HB.out)⟩
                        · rw [if_neg c47] at H
                          have c47b0 : decide (55 < (t277.size : Int)) = false := decide_eq_false c47
                          have c47b1 : decide (55 < t277.size) = false := decide_eq_false (by omega)
                          clear c47
                          have H' := Aside0.mk H
                          clear H
                          have p273 : 0 ≤ (x9_2 : Int) := of_decide_eq_true (by first | (with_reducible assumption) | assumption)
                          have q273 : x9_2 < (l0.length : Int) := of_decide_eq_true (by first | (with_reducible assumption) | assumption)
                          obtain ⟨ad273, e273, hx273_0⟩ := Kd.at_string HR0.out x9_2 p273 q273
                          cases e273
                          replace hx273_0 := (HB.out.cell (World.block_lt_of_cell? w _ hx273_0)).trans hx273_0
                          replace p273 := eq_true p273
                          replace q273 := eq_true q273
                          go_wp2_with (first | ((with_reducible refine gate_callee (f := 15) rfl ?_); refine goesL_ (some 72) rfl rfl Try.func15 (by kernel_rfl) rfl #[.string (rdOf ByteArray.empty l0 x9_2)] rfl (by (try simp only [List.map_toArray, List.map_cons, List.map_nil]); first | done | rfl | (simp only [List.length_drop, List.length_take]; rfl)) ?_; (with_reducible refine (frames_Tell.calls k2 (rdOf ByteArray.empty l0 x9_2) t274 t275 t276 t277 t278 _ A29.out).mono ?_); rintro e w51 ⟨rfl, hb⟩; refine ⟨_, rfl, ?_⟩; have n0_ := Aside0.mk (below_step (by repeat (first | (with_reducible first | exact HB.out | apply below_alloc | apply pw_below_drewN | apply below_drew1) | exact HB.out)) hb); clear HB; have HB := n0_; clear n0_; (try clear hb); (try clear hb2); (try clear hk); (try clear hi)) | ((with_reducible refine gate_dst (N := 10) rfl ?_); (try (refine gate_guard (by rfl) ?_; dsimp only)); refine box_event ?hg (N := 10) ?hd (cs := #[.int .i64 0, .int .i64 0, .int .i64 0, .string (⟨#[]⟩ : ByteArray)]) (t := 27) ?hr ?_; (case hd => rfl); (case hg => rfl); (case hr => first | (go_simp; done) | (go_simp; rfl)); intro gb279 hg w52 hbox hb; have n0_ := Aside0.mk (below_step (by repeat (first | (with_reducible first | exact HB.out | apply below_alloc | apply pw_below_drewN | apply below_drew1) | exact HB.out)) hb); have n1_ := Aside0.mk (hbox); have n2_ := Aside0.mk ((by rw [hg]; exact (below_size (by repeat (first | (with_reducible first | exact HB.out | apply below_alloc | apply pw_below_drewN | apply below_drew1) | exact HB.out))) : w.heap.size ≤ gb279)); have n3_ := Aside0.mk ((by rw [hg]; exact (below_size (by repeat (first | (with_reducible first | exact HB.out | apply below_alloc | apply pw_below_drewN | apply below_drew1) | exact HB.out))) : w.heap.size ≤ gb279)); clear HB; have HB := n0_; have BK279 := n1_; have GW279 := n2_; have GE279 := n3_; clear n0_ n1_ n2_ n3_; clear hb hbox hg; have hcz53_0 : w52.cell? ⟨gb279, 0, none⟩ = some (.int .i64 0) := (blk_cell BK279.out 0).trans rfl; have hcz53_1 : w52.cell? ⟨gb279, 1, none⟩ = some (.int .i64 0) := (blk_cell BK279.out 1).trans rfl; have hcz53_2 : w52.cell? ⟨gb279, 2, none⟩ = some (.int .i64 0) := (blk_cell BK279.out 2).trans rfl; have hcz53_3 : w52.cell? ⟨gb279, 3, none⟩ = some (.string (⟨#[]⟩ : ByteArray)) := (blk_cell BK279.out 3).trans rfl; have hfz53_0 := blk_frozen BK279.out 0; have hfz53_1 := blk_frozen BK279.out 1; have hfz53_2 := blk_frozen BK279.out 2; have hfz53_3 := blk_frozen BK279.out 3))
                          go_roundg k2
                          case measure => have := HJ2.out; have := HK2.out; omega
                          case rel => exact ⟨(wrap64 (x9_2 + 1)), (by first | rfl | (simp; done) | (simp [*]; done)), H', ⟨by have := HJ2.out; have := HK2.out; omega⟩, ⟨by repeat (first | (with_reducible first | exact HB.out | apply below_alloc | apply pw_below_drewN | apply below_drew1 | refine below_set ?_ GE279.out) | exact HB.out)⟩⟩
              · rw [if_neg c30] at H
                have c30b0 : (t278 == 0) = false := beq_eq_false_iff_ne.mpr c30
                have c30b1 : (t278 != 0) = true := bne_iff_ne.mpr c30
                have H' := Aside0.mk H
                clear H
                have p273 : 0 ≤ (x9_2 : Int) := of_decide_eq_true (by first | (with_reducible assumption) | assumption)
                have q273 : x9_2 < (l0.length : Int) := of_decide_eq_true (by first | (with_reducible assumption) | assumption)
                obtain ⟨ad273, e273, hx273_0⟩ := Kd.at_string HR0.out x9_2 p273 q273
                cases e273
                replace hx273_0 := (HB.out.cell (World.block_lt_of_cell? w _ hx273_0)).trans hx273_0
                replace p273 := eq_true p273
                replace q273 := eq_true q273
                go_wp2_with (first | ((with_reducible refine gate_callee (f := 15) rfl ?_); refine goesL_ (some 72) rfl rfl Try.func15 (by kernel_rfl) rfl #[.string (rdOf ByteArray.empty l0 x9_2)] rfl (by (try simp only [List.map_toArray, List.map_cons, List.map_nil]); first | done | rfl | (simp only [List.length_drop, List.length_take]; rfl)) ?_; (with_reducible refine (frames_Tell.calls k2 (rdOf ByteArray.empty l0 x9_2) t274 t275 t276 t277 t278 _ A29.out).mono ?_); rintro e w54 ⟨rfl, hb⟩; refine ⟨_, rfl, ?_⟩; have n0_ := Aside0.mk (below_step (by repeat (first | (with_reducible first | exact HB.out | apply below_alloc | apply pw_below_drewN | apply below_drew1) | exact HB.out)) hb); clear HB; have HB := n0_; clear n0_; (try clear hb); (try clear hb2); (try clear hk); (try clear hi)) | ((with_reducible refine gate_dst (N := 10) rfl ?_); (try (refine gate_guard (by rfl) ?_; dsimp only)); refine box_event ?hg (N := 10) ?hd (cs := #[.int .i64 0, .int .i64 0, .int .i64 0, .string (⟨#[]⟩ : ByteArray)]) (t := 27) ?hr ?_; (case hd => rfl); (case hg => rfl); (case hr => first | (go_simp; done) | (go_simp; rfl)); intro gb279 hg w55 hbox hb; have n0_ := Aside0.mk (below_step (by repeat (first | (with_reducible first | exact HB.out | apply below_alloc | apply pw_below_drewN | apply below_drew1) | exact HB.out)) hb); have n1_ := Aside0.mk (hbox); have n2_ := Aside0.mk ((by rw [hg]; exact (below_size (by repeat (first | (with_reducible first | exact HB.out | apply below_alloc | apply pw_below_drewN | apply below_drew1) | exact HB.out))) : w.heap.size ≤ gb279)); have n3_ := Aside0.mk ((by rw [hg]; exact (below_size (by repeat (first | (with_reducible first | exact HB.out | apply below_alloc | apply pw_below_drewN | apply below_drew1) | exact HB.out))) : w.heap.size ≤ gb279)); clear HB; have HB := n0_; have BK279 := n1_; have GW279 := n2_; have GE279 := n3_; clear n0_ n1_ n2_ n3_; clear hb hbox hg; have hcz56_0 : w55.cell? ⟨gb279, 0, none⟩ = some (.int .i64 0) := (blk_cell BK279.out 0).trans rfl; have hcz56_1 : w55.cell? ⟨gb279, 1, none⟩ = some (.int .i64 0) := (blk_cell BK279.out 1).trans rfl; have hcz56_2 : w55.cell? ⟨gb279, 2, none⟩ = some (.int .i64 0) := (blk_cell BK279.out 2).trans rfl; have hcz56_3 : w55.cell? ⟨gb279, 3, none⟩ = some (.string (⟨#[]⟩ : ByteArray)) := (blk_cell BK279.out 3).trans rfl; have hfz56_0 := blk_frozen BK279.out 0; have hfz56_1 := blk_frozen BK279.out 1; have hfz56_2 := blk_frozen BK279.out 2; have hfz56_3 := blk_frozen BK279.out 3))
                go_roundg k2
                case measure => have := HJ2.out; have := HK2.out; omega
                case rel => exact ⟨(wrap64 (x9_2 + 1)), (by first | rfl | (simp; done) | (simp [*]; done)), H', ⟨by have := HJ2.out; have := HK2.out; omega⟩, ⟨by repeat (first | (with_reducible first | exact HB.out | apply below_alloc | apply pw_below_drewN | apply below_drew1 | refine below_set ?_ GE279.out) | exact HB.out)⟩⟩
            · rw [if_neg c28] at H
              exact absurd H (by simp)
          · rw [if_neg c27] at H
            have c27b0 : decide (x9_2 < (l0.length : Int)) = false := decide_eq_false c27
            clear c27
            replace H := Option.bind_eq_some_iff.mp H
            obtain ⟨t280, A570, H⟩ := H
            replace H : (some t280) = some r := H
            have A57 := Aside0.mk A570
            clear A570
            obtain rfl := Option.some.inj H
            go_wp2_with (first | ((with_reducible refine gate_callee (f := 18) rfl ?_); refine goesL_ (some 105) rfl rfl Try.func18 (by kernel_rfl) rfl #[] rfl (by (try simp only [List.map_toArray, List.map_cons, List.map_nil]); first | done | rfl | (simp only [List.length_drop, List.length_take]; rfl)) ?_; (with_reducible refine (stevedorelaw04_awake.calls k2  t280 _ A57.out).mono ?_); rintro e w58 ⟨rfl, hb⟩; refine ⟨_, rfl, ?_⟩; have n0_ := Aside0.mk (below_step (by repeat (first | (with_reducible first | exact HB.out | apply below_alloc | apply pw_below_drewN | apply below_drew1) | exact HB.out)) hb); clear HB; have HB := n0_; clear n0_; (try clear hb); (try clear hb2); (try clear hk); (try clear hi)))
            go_ret
            exact ⟨by first | rfl | (simp [errW_none, errW_some] <;> rfl) | (simp [*, errW_none, errW_some] <;> rfl), by repeat (first | (with_reducible first | exact HB.out | apply below_alloc | apply pw_below_drewN | apply below_drew1) | exact HB.out)⟩

end Go.Proofs.Ytojehachhfcfaaa.Print
