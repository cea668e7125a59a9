-- Written by xprint.py, a program of this session, by the kit's printer.
import Derived.Test.YtojehachhfcfaaaPrint0
import Derived.Test.YtojehachhfcfaaaPrint3
import Derived.Test.YtojehachhfcfaaaPrint4
namespace Go.Proofs.Ytojehachhfcfaaa.Print
open Go.RowKit Go.Proofs.YtojehachhfcfaaaW.PrintWords Go.Proofs.YtojehachhfcfaaaW.PrintLast Go.Proofs.YtojehachhfcfaaaW.PrintMore
attribute [local go_sem] max2_int min2_int max_two min_two max_three min_three max_four min_four   -- for this text's walks alone
set_option linter.unusedVariables false
set_option linter.unusedSimpArgs false

/-! ### stevedorelaw04_FramesBack: function 5 -/
mutual
def stevedorelaw04_FramesBack.j0 : Nat → List ByteArray → Bool → Option (Bool)
  | 0, _, _ => none
  | k + 1, x7, x82 => if x82 = true then (some false) else (stevedorelaw04_FramesBack.l0 k x7 0)
def stevedorelaw04_FramesBack.l0 : Nat → List ByteArray → Int → Option (Bool)
  | 0, _, _ => none
  | k + 1, x7, x14 => if x14 < (x7.length : Int) then (if 0 ≤ x14 then (if x14 ≤ (x7.length : Int) then ((frames_Join.f k (x7.take (x14 : Int).toNat)).bind fun bt257 => (if bt257.2.2.2 = 43 then (if ((rdOf ByteArray.empty x7 x14).size : Int) = 64 then (stevedorelaw04_FramesBack.l0 k x7 (wrap64 (x14 + 1))) else (some false)) else (some false))) else (none)) else (none)) else ((stevedorelaw04_awake.f k).bind fun t262 => (some t262))
end
def stevedorelaw04_FramesBack.f (k : Nat) (a0 : Int) (a1 : ByteArray) (l2 : List ByteArray) : Option (Bool) := (frames_Lay.f k a0 a1).bind fun bt233 => (if bt233.2 = 0 then (if (bt233.1.length : Int) > 8 then (some false) else ((some (([] : List ByteArray) : List ByteArray)).bind fun y240 => (if y240.length + bt233.1.length < 8796093022208 then ((some (y240 ++ bt233.1 : List ByteArray)).bind fun y243 => (if y243.length + l2.length < 8796093022208 then ((frames_Join.f k (y243 ++ l2)).bind fun bt249 => (if bt249.2.2.2 = 0 then (if bt249.1 = a0 then (if bt249.2.1.toList = a1.toList then (stevedorelaw04_FramesBack.j0 k bt233.1 (bt249.2.2.1 != (bt233.1.length : Int))) else (stevedorelaw04_FramesBack.j0 k bt233.1 true)) else (stevedorelaw04_FramesBack.j0 k bt233.1 true)) else (stevedorelaw04_FramesBack.j0 k bt233.1 true))) else (none))) else (none)))) else (if bt233.2 = 43 then (if (bt233.1.length : Int) = 0 then (if a0 < 1 then ((stevedorelaw04_awake.f k).bind fun t237 => (some t237)) else (if a0 > 2147483647 then ((stevedorelaw04_awake.f k).bind fun t238 => (some t238)) else (if (a1.size : Int) > 440 then ((stevedorelaw04_awake.f k).bind fun t239 => (some t239)) else (some false)))) else (some false)) else (some false)))
theorem stevedorelaw04_FramesBack.mono_l : ∀ k, (∀ y0 y1, LeO (stevedorelaw04_FramesBack.j0 k y0 y1) (stevedorelaw04_FramesBack.j0 (k + 1) y0 y1)) ∧ (∀ y0 y1, LeO (stevedorelaw04_FramesBack.l0 k y0 y1) (stevedorelaw04_FramesBack.l0 (k + 1) y0 y1))
  | 0 => ⟨fun _ _ r h => by simp [stevedorelaw04_FramesBack.j0] at h, fun _ _ r h => by simp [stevedorelaw04_FramesBack.l0] at h⟩
  | k + 1 => by
    obtain ⟨ih0, ih1⟩ := stevedorelaw04_FramesBack.mono_l k
    refine ⟨?_, ?_⟩
    · intro y0 y1
      unfold stevedorelaw04_FramesBack.j0
      repeat' first
      | (with_reducible exact ih0 _ _)
      | (with_reducible exact ih1 _ _)
      | (with_reducible exact frames_Join.mono _ _)
      | (with_reducible exact frames_Lay.mono _ _ _)
      | (with_reducible exact stevedorelaw04_awake.mono _)
      | (with_reducible exact LeO.refl _)
      | (with_reducible exact LeO.none _)
      | (with_reducible refine LeO.ite ?_ ?_)
      | (with_reducible refine LeO.bind ?_ (fun _ => ?_))
      | exact ih0 _ _
      | exact ih1 _ _
      | exact frames_Join.mono _ _
      | exact frames_Lay.mono _ _ _
      | exact stevedorelaw04_awake.mono _
      | exact LeO.none _
      | refine LeO.ite ?_ ?_
      | refine LeO.bind ?_ (fun _ => ?_)
    · intro y0 y1
      unfold stevedorelaw04_FramesBack.l0
      repeat' first
      | (with_reducible exact ih0 _ _)
      | (with_reducible exact ih1 _ _)
      | (with_reducible exact frames_Join.mono _ _)
      | (with_reducible exact frames_Lay.mono _ _ _)
      | (with_reducible exact stevedorelaw04_awake.mono _)
      | (with_reducible exact LeO.refl _)
      | (with_reducible exact LeO.none _)
      | (with_reducible refine LeO.ite ?_ ?_)
      | (with_reducible refine LeO.bind ?_ (fun _ => ?_))
      | exact ih0 _ _
      | exact ih1 _ _
      | exact frames_Join.mono _ _
      | exact frames_Lay.mono _ _ _
      | exact stevedorelaw04_awake.mono _
      | exact LeO.none _
      | refine LeO.ite ?_ ?_
      | refine LeO.bind ?_ (fun _ => ?_)
theorem stevedorelaw04_FramesBack.mono : ∀ a0 a1 a2 k, LeO (stevedorelaw04_FramesBack.f k a0 a1 a2) (stevedorelaw04_FramesBack.f (k + 1) a0 a1 a2) := by
  intro a0 a1 a2 k
  obtain ⟨ih0, ih1⟩ := stevedorelaw04_FramesBack.mono_l k
  unfold stevedorelaw04_FramesBack.f
  repeat' first
      | (with_reducible exact ih0 _ _)
      | (with_reducible exact ih1 _ _)
      | (with_reducible exact frames_Join.mono _ _)
      | (with_reducible exact frames_Lay.mono _ _ _)
      | (with_reducible exact stevedorelaw04_awake.mono _)
      | (with_reducible exact LeO.refl _)
      | (with_reducible exact LeO.none _)
      | (with_reducible refine LeO.ite ?_ ?_)
      | (with_reducible refine LeO.bind ?_ (fun _ => ?_))
      | exact ih0 _ _
      | exact ih1 _ _
      | exact frames_Join.mono _ _
      | exact frames_Lay.mono _ _ _
      | exact stevedorelaw04_awake.mono _
      | exact LeO.none _
      | refine LeO.ite ?_ ?_
      | refine LeO.bind ?_ (fun _ => ?_)
set_option maxHeartbeats 8000000 in
set_option maxRecDepth 100000 in
theorem stevedorelaw04_FramesBack.calls (k : Nat) (a0 : Int) (a1 : ByteArray) (A2 : Option Addr) (c2 : Nat) (l2 : List ByteArray) (r : Bool) (w : World) (hr2 : Kd.C Kd.string w A2 l2.length l2) (hc2 : l2.length ≤ c2) (h : stevedorelaw04_FramesBack.f k a0 a1 l2 = some r) :
    Calls Try.prog 5 #[.int .i64 a0, .string a1, .slice A2 l2.length c2] w fun e w' => e = .returned (.bool r) ∧ Below w.heap.size w w' := by
  have HR2 := Aside0.mk hr2
  have HC2 := Aside0.mk hc2
  clear hr2 hc2
  have HB := Aside0.mk (Below.refl w.heap.size w)
  have H : ((frames_Lay.f k a0 a1).bind fun bt233 => (if bt233.2 = 0 then (if (bt233.1.length : Int) > 8 then (some false) else ((some (([] : List ByteArray) : List ByteArray)).bind fun y240 => (if y240.length + bt233.1.length < 8796093022208 then ((some (y240 ++ bt233.1 : List ByteArray)).bind fun y243 => (if y243.length + l2.length < 8796093022208 then ((frames_Join.f k (y243 ++ l2)).bind fun bt249 => (if bt249.2.2.2 = 0 then (if bt249.1 = a0 then (if bt249.2.1.toList = a1.toList then (stevedorelaw04_FramesBack.j0 k bt233.1 (bt249.2.2.1 != (bt233.1.length : Int))) else (stevedorelaw04_FramesBack.j0 k bt233.1 true)) else (stevedorelaw04_FramesBack.j0 k bt233.1 true)) else (stevedorelaw04_FramesBack.j0 k bt233.1 true))) else (none))) else (none)))) else (if bt233.2 = 43 then (if (bt233.1.length : Int) = 0 then (if a0 < 1 then ((stevedorelaw04_awake.f k).bind fun t237 => (some t237)) else (if a0 > 2147483647 then ((stevedorelaw04_awake.f k).bind fun t238 => (some t238)) else (if (a1.size : Int) > 440 then ((stevedorelaw04_awake.f k).bind fun t239 => (some t239)) else (some false)))) else (some false)) else (some false)))) = some r := h
  clear h
  replace H := Option.bind_eq_some_iff.mp H
  obtain ⟨⟨t233, t234⟩, A40, H⟩ := H
  replace H : (if t234 = 0 then (if (t233.length : Int) > 8 then (some false) else ((some (([] : List ByteArray) : List ByteArray)).bind fun y240 => (if y240.length + t233.length < 8796093022208 then ((some (y240 ++ t233 : List ByteArray)).bind fun y243 => (if y243.length + l2.length < 8796093022208 then ((frames_Join.f k (y243 ++ l2)).bind fun bt249 => (if bt249.2.2.2 = 0 then (if bt249.1 = a0 then (if bt249.2.1.toList = a1.toList then (stevedorelaw04_FramesBack.j0 k t233 (bt249.2.2.1 != (t233.length : Int))) else (stevedorelaw04_FramesBack.j0 k t233 true)) else (stevedorelaw04_FramesBack.j0 k t233 true)) else (stevedorelaw04_FramesBack.j0 k t233 true))) else (none))) else (none)))) else (if t234 = 43 then (if (t233.length : Int) = 0 then (if a0 < 1 then ((stevedorelaw04_awake.f k).bind fun t237 => (some t237)) else (if a0 > 2147483647 then ((stevedorelaw04_awake.f k).bind fun t238 => (some t238)) else (if (a1.size : Int) > 440 then ((stevedorelaw04_awake.f k).bind fun t239 => (some t239)) else (some false)))) else (some false)) else (some false))) = some r := H
  have A4 := Aside0.mk A40
  clear A40
  by_cases c5 : t234 = 0
  · rw [if_pos c5] at H
    have c5b0 : (t234 == 0) = true := beq_iff_eq.mpr c5
    have c5b1 : (t234 != 0) = false := bne_eq_false_iff_eq.mpr c5
    clear c5
    by_cases c6 : (t233.length : Int) > 8
    · rw [if_pos c6] at H
      have c6b0 : decide (8 < (t233.length : Int)) = true := decide_eq_true c6
      have c6b1 : decide (8 < t233.length) = true := decide_eq_true (by omega)
      clear c6
      obtain rfl := Option.some.inj H
      go_enter Try.func5, Try.ntmps5
      go_wp2_with (first | ((with_reducible refine gate_callee (f := 13) rfl ?_); refine goesL_ (some 22) rfl rfl Try.func13 (by kernel_rfl) rfl #[.int .i64 a0, .string a1] rfl (by (try simp only [List.map_toArray, List.map_cons, List.map_nil]); first | done | rfl | (simp only [List.length_drop, List.length_take]; rfl)) ?_; (with_reducible refine (frames_Lay.calls k a0 a1 t233 t234 _ A4.out).mono ?_); rintro e w7 ⟨v235, rfl, ho0, hb⟩; refine ⟨_, rfl, ?_⟩; have n0_ := Aside0.mk (Kd.R_lower ho0 (below_size (by repeat (first | (with_reducible first | exact HB.out | apply below_alloc | apply pw_below_drewN | apply below_drew1) | exact HB.out)))); have n1_ := Aside0.mk (below_step (by repeat (first | (with_reducible first | exact HB.out | apply below_alloc | apply pw_below_drewN | apply below_drew1) | exact HB.out)) hb); clear HB; have HO236 := n0_; have HB := n1_; clear n0_ n1_; (try clear hb); (try clear hb2); (try clear hk); (try clear hi); (try clear ho0); obtain ⟨Ao8, co8, eo8⟩ := Kd.R_slice HO236.out; subst eo8))
      go_ret
      exact ⟨by first | rfl | (simp [errW_none, errW_some] <;> rfl) | (simp [*, errW_none, errW_some] <;> rfl), by repeat (first | (with_reducible first | exact HB.out | apply below_alloc | apply pw_below_drewN | apply below_drew1) | exact HB.out)⟩
    · rw [if_neg c6] at H
      have c6b0 : decide (8 < (t233.length : Int)) = false := decide_eq_false c6
      have c6b1 : decide (8 < t233.length) = false := decide_eq_false (by omega)
      clear c6
      obtain ⟨y240, hy240⟩ : ∃ y_ : List ByteArray, y_ = (([] : List ByteArray)) := ⟨_, rfl⟩
      replace H : (if y240.length + t233.length < 8796093022208 then ((some (y240 ++ t233 : List ByteArray)).bind fun y243 => (if y243.length + l2.length < 8796093022208 then ((frames_Join.f k (y243 ++ l2)).bind fun bt249 => (if bt249.2.2.2 = 0 then (if bt249.1 = a0 then (if bt249.2.1.toList = a1.toList then (stevedorelaw04_FramesBack.j0 k t233 (bt249.2.2.1 != (t233.length : Int))) else (stevedorelaw04_FramesBack.j0 k t233 true)) else (stevedorelaw04_FramesBack.j0 k t233 true)) else (stevedorelaw04_FramesBack.j0 k t233 true))) else (none))) else (none)) = some r := by first | (rw [hy240]; with_reducible exact H) | (have H2_ := (Option.bind_some _ _).symm.trans H; rw [hy240]; with_reducible exact H2_) | (have H2_ := (Option.bind_some _ _).symm.trans H; with_reducible exact H2_) | with_reducible exact H | (rw [hy240]; exact H) | exact H
      have Ny240 := Aside0.mk hy240
      clear hy240
      by_cases c9 : y240.length + t233.length < 8796093022208
      · rw [if_pos c9] at H
        have LMc9 := Aside0.mk c9
        clear c9
        obtain ⟨y243, hy243⟩ : ∃ y_ : List ByteArray, y_ = (y240 ++ t233) := ⟨_, rfl⟩
        replace H : (if y243.length + l2.length < 8796093022208 then ((frames_Join.f k (y243 ++ l2)).bind fun bt249 => (if bt249.2.2.2 = 0 then (if bt249.1 = a0 then (if bt249.2.1.toList = a1.toList then (stevedorelaw04_FramesBack.j0 k t233 (bt249.2.2.1 != (t233.length : Int))) else (stevedorelaw04_FramesBack.j0 k t233 true)) else (stevedorelaw04_FramesBack.j0 k t233 true)) else (stevedorelaw04_FramesBack.j0 k t233 true))) else (none)) = some r := by first | (rw [hy243]; with_reducible exact H) | (have H2_ := (Option.bind_some _ _).symm.trans H; rw [hy243]; with_reducible exact H2_) | (have H2_ := (Option.bind_some _ _).symm.trans H; with_reducible exact H2_) | with_reducible exact H | (rw [hy243]; exact H) | exact H
        have Ny243 := Aside0.mk hy243
        clear hy243
        by_cases c10 : y243.length + l2.length < 8796093022208
        · rw [if_pos c10] at H
          have LMc10 := Aside0.mk c10
          clear c10
          obtain ⟨y246, hy246⟩ : ∃ y_ : List ByteArray, y_ = (y243 ++ l2) := ⟨_, rfl⟩
          replace H : ((frames_Join.f k y246).bind fun bt249 => (if bt249.2.2.2 = 0 then (if bt249.1 = a0 then (if bt249.2.1.toList = a1.toList then (stevedorelaw04_FramesBack.j0 k t233 (bt249.2.2.1 != (t233.length : Int))) else (stevedorelaw04_FramesBack.j0 k t233 true)) else (stevedorelaw04_FramesBack.j0 k t233 true)) else (stevedorelaw04_FramesBack.j0 k t233 true))) = some r := by first | (rw [hy246]; with_reducible exact H) | (have H2_ := (Option.bind_some _ _).symm.trans H; rw [hy246]; with_reducible exact H2_) | (have H2_ := (Option.bind_some _ _).symm.trans H; with_reducible exact H2_) | with_reducible exact H | (rw [hy246]; exact H) | exact H
          have Ny246 := Aside0.mk hy246
          clear hy246
          replace H := Option.bind_eq_some_iff.mp H
          obtain ⟨⟨t249, t250, t251, t252⟩, A110, H⟩ := H
          replace H : (if t252 = 0 then (if t249 = a0 then (if t250.toList = a1.toList then (stevedorelaw04_FramesBack.j0 k t233 (t251 != (t233.length : Int))) else (stevedorelaw04_FramesBack.j0 k t233 true)) else (stevedorelaw04_FramesBack.j0 k t233 true)) else (stevedorelaw04_FramesBack.j0 k t233 true)) = some r := H
          have A11 := Aside0.mk A110
          clear A110
          have HC12 := Aside0.mk H
          clear H
          go_enter Try.func5, Try.ntmps5
          go_upto_region 8 with (first | ((with_reducible refine gate_callee (f := 13) rfl ?_); refine goesL_ (some 22) rfl rfl Try.func13 (by kernel_rfl) rfl #[.int .i64 a0, .string a1] rfl (by (try simp only [List.map_toArray, List.map_cons, List.map_nil]); first | done | rfl | (simp only [List.length_drop, List.length_take]; rfl)) ?_; (with_reducible refine (frames_Lay.calls k a0 a1 t233 t234 _ A4.out).mono ?_); rintro e w13 ⟨v235, rfl, ho0, hb⟩; refine ⟨_, rfl, ?_⟩; have n0_ := Aside0.mk (Kd.R_lower ho0 (below_size (by repeat (first | (with_reducible first | exact HB.out | apply below_alloc | apply pw_below_drewN | apply below_drew1) | exact HB.out)))); have n1_ := Aside0.mk (below_step (by repeat (first | (with_reducible first | exact HB.out | apply below_alloc | apply pw_below_drewN | apply below_drew1) | exact HB.out)) hb); clear HB; have HO236 := n0_; have HB := n1_; clear n0_ n1_; (try clear hb); (try clear hb2); (try clear hk); (try clear hi); (try clear ho0); obtain ⟨Ao14, co14, eo14⟩ := Kd.R_slice HO236.out; subst eo14) | ((with_reducible refine gate_dst (N := 53) rfl ?_); (try (refine gate_guard (by rfl) ?_; dsimp only)); refine Kd.R_lit Kd.string _ 9 ?hg (N := 53) ?hd (xs := ([] : List ByteArray)) (inner := []) (ok := fun _ => True) (okp := fun _ => True) ?hr ?hp (fun _ hk => hk) trivial (Below.refl _ _) (Nat.le_refl _) (by simp) ?_; (case hd => rfl); (case hg => rfl); (case hr => first | (go_simp; done) | (go_simp; rfl)); (case hp => exact (Reps.none _ _)); intro v241 w15 ho16 hb hg_ hnew_; clear hg_ hnew_; (first | rw [← Ny240.out] at ho16 | (simp only [Int.reduceToNat] at ho16; rw [← Ny240.out] at ho16)); have n0_ := Aside0.mk (Kd.R_elder' (by (with_reducible repeat (first | apply Kd.R_alloc | apply Kd.R_drewN | apply Kd.R_drew)); exact HO236.out) (Kd.R_base ho16) hb); have n1_ := Aside0.mk (Kd.R_lower (Kd.R_new' ho16 (Kd.R_lt (by (with_reducible repeat (first | apply Kd.R_alloc | apply Kd.R_drewN | apply Kd.R_drew)); exact HO236.out))) (below_size (by repeat (first | (with_reducible first | exact HB.out | apply below_alloc | apply pw_below_drewN | apply below_drew1) | exact HB.out)))); have n2_ := Aside0.mk (below_step (by repeat (first | (with_reducible first | exact HB.out | apply below_alloc | apply pw_below_drewN | apply below_drew1) | exact HB.out)) hb); clear HO236; clear HB; have HO236 := n0_; have HO242 := n1_; have HB := n2_; clear n0_ n1_ n2_; clear hb ho16) | ((with_reducible refine gate_builtin (b := .append) (xs := #[.tmp 53, .tmp 54]) rfl ?_); (try (refine gate_guard (by rfl) ?_; dsimp only)); at_builtin; refine Kd.R_append_rows Kd.string (w0 := w) w.heap.size rfl (.tmp 53) (.tmp 54) 22 9 (.string ⟨#[]⟩) 16 rfl Try.underlying22 info9 rfl (by decide) (by omega) v241 y240 t233 _ _ _ (fun k_ => some k_ ≠ (.slice Ao14 t233.length co14 : Value).ownBlock) (fun _ => False) rfl rfl ?aO ?aR (fun _ _ h => h) (fun _ h => h.elim) ?aF ?aB ?aS ?aL ?_; (case aR => repeat (first | exact (Kd.R_reads' HO236.out).2.2 | (with_reducible refine Kd.C_alloc ?_ _) | (with_reducible refine Kd.C_drewN ?_ _) | (with_reducible refine Kd.C_drew ?_))); (case aB => exact (by repeat (first | (with_reducible first | exact HB.out | apply below_alloc | apply pw_below_drewN | apply below_drew1) | exact HB.out))); (case aF => exact (fun k_ hk => Kd.fresh' (Kd.R_lt (by (with_reducible repeat (first | apply Kd.R_alloc | apply Kd.R_drewN | apply Kd.R_drew)); exact HO236.out)) k_ hk)); (case aO => exact (by (with_reducible repeat (first | apply Kd.R_alloc | apply Kd.R_drewN | apply Kd.R_drew)); exact Kd.R_mono HO242.out (fun _ hk => hk.2))); (case aS => exact (below_size (by repeat (first | (with_reducible first | exact HB.out | apply below_alloc | apply pw_below_drewN | apply below_drew1) | exact HB.out)))); (case aL => have := LMc9.out; omega); intro v244 w17 ho hb hg hat; rw [← Ny243.out] at ho; have n0_ := Aside0.mk (Kd.R_after (ok := (fun _ => True)) (by (with_reducible repeat (first | apply Kd.R_alloc | apply Kd.R_drewN | apply Kd.R_drew)); exact HO236.out) hg hat); have n1_ := Aside0.mk (hb); have n2_ := Aside0.mk (ho); clear HO236; clear HB; clear HO242; have HO236 := n0_; have HB := n1_; have HO245 := n2_; clear n0_ n1_ n2_; clear ho hb hg hat) | ((with_reducible refine gate_builtin (b := .append) (xs := #[.tmp 55, .tmp 56]) rfl ?_); (try (refine gate_guard (by rfl) ?_; dsimp only)); at_builtin; refine Kd.R_append_rows Kd.string (w0 := w) w.heap.size rfl (.tmp 55) (.tmp 56) 22 9 (.string ⟨#[]⟩) 16 rfl Try.underlying22 info9 rfl (by decide) (by omega) v244 y243 l2 _ _ _ (fun k_ => some k_ ≠ (.slice Ao14 t233.length co14 : Value).ownBlock) (fun _ => False) rfl rfl ?aO ?aR (fun _ _ h => h) (fun _ h => h.elim) ?aF ?aB ?aS ?aL ?_; (case aR => repeat (first | exact (Kd.C_below HR2.out HB.out) | (with_reducible refine Kd.C_alloc ?_ _) | (with_reducible refine Kd.C_drewN ?_ _) | (with_reducible refine Kd.C_drew ?_))); (case aB => exact (by repeat (first | (with_reducible first | exact HB.out | apply below_alloc | apply pw_below_drewN | apply below_drew1) | exact HB.out))); (case aF => exact (fun k_ hk => Kd.fresh' (Kd.R_lt (by (with_reducible repeat (first | apply Kd.R_alloc | apply Kd.R_drewN | apply Kd.R_drew)); exact HO236.out)) k_ hk)); (case aO => exact (by (with_reducible repeat (first | apply Kd.R_alloc | apply Kd.R_drewN | apply Kd.R_drew)); exact HO245.out)); (case aS => exact (below_size (by repeat (first | (with_reducible first | exact HB.out | apply below_alloc | apply pw_below_drewN | apply below_drew1) | exact HB.out)))); (case aL => have := LMc10.out; omega); intro v247 w18 ho hb hg hat; rw [← Ny246.out] at ho; have n0_ := Aside0.mk (Kd.R_after (ok := (fun _ => True)) (by (with_reducible repeat (first | apply Kd.R_alloc | apply Kd.R_drewN | apply Kd.R_drew)); exact HO236.out) hg hat); have n1_ := Aside0.mk (hb); have n2_ := Aside0.mk (ho); clear HO236; clear HB; clear HO245; have HO236 := n0_; have HB := n1_; have HO248 := n2_; clear n0_ n1_ n2_; clear ho hb hg hat; obtain ⟨Ao19, co19, eo19⟩ := Kd.R_slice HO248.out; subst eo19) | ((with_reducible refine gate_callee (f := 19) rfl ?_); refine goesL_ (some 60) rfl rfl Try.func19 (by kernel_rfl) rfl #[.slice Ao19 y246.length co19] rfl (by (try simp only [List.map_toArray, List.map_cons, List.map_nil]); first | done | rfl | (simp only [List.length_drop, List.length_take]; rfl)) ?_; (with_reducible refine (frames_Join.calls k _ _ y246 t249 t250 t251 t252 _ ?side1 ?side2 A11.out).mono ?_); (case side1 => repeat (first | exact (Kd.R_reads' HO248.out).2.2 | (with_reducible refine Kd.C_alloc ?_ _) | (with_reducible refine Kd.C_drewN ?_ _) | (with_reducible refine Kd.C_drew ?_))); (case side2 => exact (Kd.R_reads' HO248.out).2.1); rintro e w20 ⟨rfl, hb⟩; refine ⟨_, rfl, ?_⟩; have n0_ := Aside0.mk (Kd.R_below (by (with_reducible repeat (first | apply Kd.R_alloc | apply Kd.R_drewN | apply Kd.R_drew)); exact HO236.out) hb); have n1_ := Aside0.mk (Kd.R_below (by (with_reducible repeat (first | apply Kd.R_alloc | apply Kd.R_drewN | apply Kd.R_drew)); exact HO248.out) hb); have n2_ := Aside0.mk (below_step (by repeat (first | (with_reducible first | exact HB.out | apply below_alloc | apply pw_below_drewN | apply below_drew1) | exact HB.out)) hb); clear HO236; clear HO248; clear HB; have HO236 := n0_; have HO248 := n1_; have HB := n2_; clear n0_ n1_ n2_; (try clear hb); (try clear hb2); (try clear hk); (try clear hi)))
          (try simp only [Act.put, List.setIfInBounds_toArray, List.set_cons_zero, List.set_cons_succ])
          go_cut [82, 26, 52] (fun v82 v26 v52 wc => ∃ (kq : Nat) (x82_11 : Bool), v82 = .bool x82_11 ∧ Aside0 (stevedorelaw04_FramesBack.j0 kq t233 x82_11 = some r) ∧ Aside0 (kq ≤ k) ∧ Aside0 (Kd.R Kd.string 9 wc w.heap.size (fun _ => True) (.slice Ao14 t233.length co14) t233) ∧ Aside0 (Below w.heap.size w wc))
          case first =>
            have H := HC12.out
            clear HC12
            by_cases c21 : t252 = 0
            · rw [if_pos c21] at H
              have c21b0 : (t252 == 0) = true := beq_iff_eq.mpr c21
              have c21b1 : (t252 != 0) = false := bne_eq_false_iff_eq.mpr c21
              clear c21
              (first | rw [c21b0] | (simp only [i64_w, i32_w]; rw [c21b0]) | skip)
              by_cases c22 : t249 = a0
              · rw [if_pos c22] at H
                have c22b0 : (t249 == a0) = true := beq_iff_eq.mpr c22
                have c22b1 : (t249 != a0) = false := bne_eq_false_iff_eq.mpr c22
                clear c22
                by_cases c23 : t250.toList = a1.toList
                · rw [if_pos c23] at H
                  have c23b0 : (t250.toList == a1.toList) = true := beq_iff_eq.mpr c23
                  have c23b1 : (t250.toList != a1.toList) = false := bne_eq_false_iff_eq.mpr c23
                  clear c23
                  have H' := Aside0.mk H
                  clear H
                  go_wp2
                  go_meet
                  case rel => exact ⟨_, ((t251 != (t233.length : Int))), (by first | rfl | (simp; done) | (simp [*]; done)), H', ⟨by first | omega | exact Nat.le_refl _⟩, ⟨by (with_reducible repeat (first | apply Kd.R_alloc | apply Kd.R_drewN | apply Kd.R_drew)); exact Kd.R_mono HO236.out (fun _ hk => trivial)⟩, ⟨by repeat (first | (with_reducible first | exact HB.out | apply below_alloc | apply pw_below_drewN | apply below_drew1) | exact HB.out)⟩⟩
                · rw [if_neg c23] at H
                  have c23b0 : (t250.toList == a1.toList) = false := beq_eq_false_iff_ne.mpr c23
                  have c23b1 : (t250.toList != a1.toList) = true := bne_iff_ne.mpr c23
                  have H' := Aside0.mk H
                  clear H
                  go_wp2
                  go_meet
                  case rel => exact ⟨_, (true), (by first | rfl | (simp; done) | (simp [*]; done)), H', ⟨by first | omega | exact Nat.le_refl _⟩, ⟨by (with_reducible repeat (first | apply Kd.R_alloc | apply Kd.R_drewN | apply Kd.R_drew)); exact Kd.R_mono HO236.out (fun _ hk => trivial)⟩, ⟨by repeat (first | (with_reducible first | exact HB.out | apply below_alloc | apply pw_below_drewN | apply below_drew1) | exact HB.out)⟩⟩
              · rw [if_neg c22] at H
                have c22b0 : (t249 == a0) = false := beq_eq_false_iff_ne.mpr c22
                have c22b1 : (t249 != a0) = true := bne_iff_ne.mpr c22
                have H' := Aside0.mk H
                clear H
                go_wp2
                go_meet
                case rel => exact ⟨_, (true), (by first | rfl | (simp; done) | (simp [*]; done)), H', ⟨by first | omega | exact Nat.le_refl _⟩, ⟨by (with_reducible repeat (first | apply Kd.R_alloc | apply Kd.R_drewN | apply Kd.R_drew)); exact Kd.R_mono HO236.out (fun _ hk => trivial)⟩, ⟨by repeat (first | (with_reducible first | exact HB.out | apply below_alloc | apply pw_below_drewN | apply below_drew1) | exact HB.out)⟩⟩
            · rw [if_neg c21] at H
              have c21b0 : (t252 == 0) = false := beq_eq_false_iff_ne.mpr c21
              have c21b1 : (t252 != 0) = true := bne_iff_ne.mpr c21
              (first | rw [c21b0] | (simp only [i64_w, i32_w]; rw [c21b0]) | skip)
              have H' := Aside0.mk H
              clear H
              go_wp2
              go_meet
              case rel => exact ⟨_, (true), (by first | rfl | (simp; done) | (simp [*]; done)), H', ⟨by first | omega | exact Nat.le_refl _⟩, ⟨by (with_reducible repeat (first | apply Kd.R_alloc | apply Kd.R_drewN | apply Kd.R_drew)); exact Kd.R_mono HO236.out (fun _ hk => trivial)⟩, ⟨by repeat (first | (with_reducible first | exact HB.out | apply below_alloc | apply pw_below_drewN | apply below_drew1) | exact HB.out)⟩⟩
          case rest =>
            clear HC12
            try clear c1
            try clear c2
            try clear p2
            try clear c5
            try clear c5b0
            try clear c5b1
            try clear c6
            try clear c6b0
            try clear c6b1
            try clear c9
            try clear c10
            try clear c13
            try clear c19
            try clear c21
            try clear c21b0
            try clear c21b1
            try clear c22
            try clear c22b0
            try clear c22b1
            try clear c23
            try clear c23b0
            try clear c23b1
            obtain ⟨kq, x82_11, rfl, HA, HJ11, HO_7, HB⟩ := hcut
            cases kq with
            | zero => exact absurd HA.out (by simp [stevedorelaw04_FramesBack.j0])
            | succ kj11 =>
              have H := HA.out
              clear HA
              simp only [stevedorelaw04_FramesBack.j0] at H
              by_cases c24 : x82_11 = true
              · subst c24
                have H1 : (some false) = some r := by rw [if_pos rfl] at H; exact H
                clear H
                have H := H1
                clear H1
                obtain rfl := Option.some.inj H
                go_wp2
                go_ret
                exact ⟨by first | rfl | (simp [errW_none, errW_some] <;> rfl) | (simp [*, errW_none, errW_some] <;> rfl), by repeat (first | (with_reducible first | exact HB.out | apply below_alloc | apply pw_below_drewN | apply below_drew1) | exact HB.out)⟩
              · replace c24 := Bool.eq_false_iff.mpr c24
                subst c24
                have H1 : (stevedorelaw04_FramesBack.l0 kj11 t233 0) = some r := by rw [if_neg (show ¬ (false = true) by decide)] at H; exact H
                clear H
                have H := H1
                clear H1
                have H' := Aside0.mk H
                clear H
                go_wp2
                go_loopg [14] kj11 (fun kq v14 w' => ∃ (x14_2 : Int), v14 = .int .i64 x14_2 ∧ Aside0 (stevedorelaw04_FramesBack.l0 kq t233 x14_2 = some r) ∧ Aside0 (kq ≤ kj11) ∧ Aside0 (Kd.R Kd.string 9 w' w.heap.size (fun _ => True) (.slice Ao14 t233.length co14) t233) ∧ Aside0 (Below w.heap.size w w'))
                case atStart => exact ⟨(0), (by first | rfl | (simp; done) | (simp [*]; done)), H', ⟨Nat.le_refl _⟩, ⟨by (with_reducible repeat (first | apply Kd.R_alloc | apply Kd.R_drewN | apply Kd.R_drew)); exact HO_7.out⟩, ⟨by repeat (first | (with_reducible first | exact HB.out | apply below_alloc | apply pw_below_drewN | apply below_drew1) | exact HB.out)⟩⟩
                case round =>
                  clear H'
                  try clear c1
                  try clear c2
                  try clear p2
                  try clear c5
                  try clear c5b0
                  try clear c5b1
                  try clear c6
                  try clear c6b0
                  try clear c6b1
                  try clear c9
                  try clear c10
                  try clear c13
                  try clear c19
                  try clear c21
                  try clear c21b0
                  try clear c21b1
                  try clear c22
                  try clear c22b0
                  try clear c22b1
                  try clear c23
                  try clear c23b0
                  try clear c23b1
                  try clear c24
                  try clear p2
                  obtain ⟨x14_2, rfl, HA, HK2, HO_7, HB⟩ := hrel
                  cases gk with
                  | zero => exact absurd HA.out (by simp [stevedorelaw04_FramesBack.l0])
                  | succ k2 =>
                    have H := HA.out
                    clear HA
                    simp only [stevedorelaw04_FramesBack.l0] at H
                    by_cases c25 : x14_2 < (t233.length : Int)
                    · rw [if_pos c25] at H
                      have c25b0 : decide (x14_2 < (t233.length : Int)) = true := decide_eq_true c25
                      clear c25
                      by_cases c26 : 0 ≤ x14_2
                      · rw [if_pos c26] at H
                        have c26b0 := eq_true c26
                        have c26b1 : decide (0 ≤ x14_2) = true := decide_eq_true c26
                        clear c26
                        by_cases c27 : x14_2 ≤ (t233.length : Int)
                        · rw [if_pos c27] at H
                          have c27b0 := eq_true c27
                          have c27b1 : decide (x14_2 ≤ (t233.length : Int)) = true := decide_eq_true c27
                          clear c27
                          obtain ⟨y253, hy253⟩ : ∃ y_ : List ByteArray, y_ = (t233.take (x14_2 : Int).toNat) := ⟨_, rfl⟩
                          replace H : ((frames_Join.f k2 y253).bind fun bt257 => (if bt257.2.2.2 = 43 then (if ((rdOf ByteArray.empty t233 x14_2).size : Int) = 64 then (stevedorelaw04_FramesBack.l0 k2 t233 (wrap64 (x14_2 + 1))) else (some false)) else (some false))) = some r := by first | (rw [hy253]; with_reducible exact H) | (have H2_ := (Option.bind_some _ _).symm.trans H; rw [hy253]; with_reducible exact H2_) | (have H2_ := (Option.bind_some _ _).symm.trans H; with_reducible exact H2_) | with_reducible exact H | (rw [hy253]; exact H) | exact H
                          have Ny253 := Aside0.mk hy253
                          clear hy253
                          replace H := Option.bind_eq_some_iff.mp H
                          obtain ⟨⟨t257, t258, t259, t260⟩, A280, H⟩ := H
                          replace H : (if t260 = 43 then (if ((rdOf ByteArray.empty t233 x14_2).size : Int) = 64 then (stevedorelaw04_FramesBack.l0 k2 t233 (wrap64 (x14_2 + 1))) else (some false)) else (some false)) = some r := H
                          have A28 := Aside0.mk A280
                          clear A280
                          by_cases c29 : t260 = 43
                          · rw [if_pos c29] at H
                            have c29b0 : (t260 == 43) = true := beq_iff_eq.mpr c29
                            have c29b1 : (t260 != 43) = false := bne_eq_false_iff_eq.mpr c29
                            clear c29
                            by_cases c30 : ((rdOf ByteArray.empty t233 x14_2).size : Int) = 64
                            · rw [if_pos c30] at H
                              have c30b0 : (((rdOf ByteArray.empty t233 x14_2).size : Int) == 64) = true := beq_iff_eq.mpr c30
                              have c30b1 : (((rdOf ByteArray.empty t233 x14_2).size : Int) != 64) = false := bne_eq_false_iff_eq.mpr c30
                              clear c30
                              have H' := Aside0.mk H
                              clear H
                              have q31 : (x14_2 : Int) ≤ ((t233.length : Int) : Int) := of_decide_eq_true (by first | (with_reducible assumption) | assumption)
                              obtain ⟨i031, hi031, _, hsz31, _⟩ := info_parts info9
                              have hroom31 : t233.length ≤ co14 := (Kd.R_reads' HO_7.out).2.1
                              have hC31 : Kd.C Kd.string _ Ao14 t233.length t233 := (Kd.R_reads' HO_7.out).2.2
                              have hcut31 := cut_to (P := Try.prog) 22 9 .i64 Try.underlying22 hi031 Ao14 t233.length co14 x14_2 (of_decide_eq_true (by first | (with_reducible assumption) | assumption)) q31 hroom31
                              have hr31 := Kd.C_take (m := (x14_2 : Int).toNat) hC31 (by omega)
                              have hy31 : y253.length = (x14_2 : Int).toNat := (by rw [Ny253.out, List.length_take]; omega)
                              rw [← Ny253.out] at hr31
                              rw [← hy31] at hcut31
                              have HR256 := Aside0.mk hr31
                              have HC256 := Aside0.mk (show y253.length ≤ co14 from by omega)
                              clear hr31 hC31 hroom31 hi031 hsz31
                              have KY31 := Aside0.mk hy31
                              clear hy31
                              have KL31 := Aside0.mk (show (x14_2 : Int).toNat ≤ t233.length from by omega)
                              replace q31 := eq_true q31
                              go_wp2_with (first | ((with_reducible refine gate_callee (f := 19) rfl ?_); refine goesL_ (some 93) rfl rfl Try.func19 (by kernel_rfl) rfl #[.slice Ao14 y253.length co14] rfl (by (try simp only [List.map_toArray, List.map_cons, List.map_nil]); first | done | rfl | (simp only [List.length_drop, List.length_take]; rfl)) ?_; (with_reducible refine (frames_Join.calls k2 _ _ y253 t257 t258 t259 t260 _ ?side1 ?side2 A28.out).mono ?_); (case side1 => repeat (first | exact (by repeat (first | (with_reducible exact HR256.out) | (with_reducible refine Kd.C_alloc ?_ _) | (with_reducible refine Kd.C_drewN ?_ _) | (with_reducible refine Kd.C_drew ?_) | exact HR256.out)) | (with_reducible refine Kd.C_alloc ?_ _) | (with_reducible refine Kd.C_drewN ?_ _) | (with_reducible refine Kd.C_drew ?_))); (case side2 => exact HC256.out); rintro e w32 ⟨rfl, hb⟩; refine ⟨_, rfl, ?_⟩; have n0_ := Aside0.mk (Kd.R_below (by (with_reducible repeat (first | apply Kd.R_alloc | apply Kd.R_drewN | apply Kd.R_drew)); exact HO_7.out) hb); have n1_ := Aside0.mk (Kd.C_below (by repeat (first | (with_reducible exact HR256.out) | (with_reducible refine Kd.C_alloc ?_ _) | (with_reducible refine Kd.C_drewN ?_ _) | (with_reducible refine Kd.C_drew ?_) | exact HR256.out)) hb); have n2_ := Aside0.mk (below_step (by repeat (first | (with_reducible first | exact HB.out | apply below_alloc | apply pw_below_drewN | apply below_drew1) | exact HB.out)) hb); clear HO_7; clear HR256; clear HB; have HO_7 := n0_; have HR256 := n1_; have HB := n2_; clear n0_ n1_ n2_; (try clear hb); (try clear hb2); (try clear hk); (try clear hi); have p261 : 0 ≤ (x14_2 : Int) := of_decide_eq_true (by first | (with_reducible assumption) | assumption); have q261 : x14_2 < (t233.length : Int) := of_decide_eq_true (by first | (with_reducible assumption) | assumption); obtain ⟨ad261, e261, hx261_0⟩ := Kd.at_string (Kd.R_reads' HO_7.out).2.2 x14_2 p261 q261; cases e261; replace p261 := eq_true p261; replace q261 := eq_true q261))
                              go_roundg k2
                              case measure => have := HJ11.out; have := HK2.out; omega
                              case rel => exact ⟨(wrap64 (x14_2 + 1)), (by first | rfl | (simp; done) | (simp [*]; done)), H', ⟨by have := HJ11.out; have := HK2.out; omega⟩, ⟨by (with_reducible repeat (first | apply Kd.R_alloc | apply Kd.R_drewN | apply Kd.R_drew)); exact HO_7.out⟩, ⟨by repeat (first | (with_reducible first | exact HB.out | apply below_alloc | apply pw_below_drewN | apply below_drew1) | exact HB.out)⟩⟩
                            · rw [if_neg c30] at H
                              have c30b0 : (((rdOf ByteArray.empty t233 x14_2).size : Int) == 64) = false := beq_eq_false_iff_ne.mpr c30
                              have c30b1 : (((rdOf ByteArray.empty t233 x14_2).size : Int) != 64) = true := bne_iff_ne.mpr c30
                              obtain rfl := Option.some.inj H
                              have q33 : (x14_2 : Int) ≤ ((t233.length : Int) : Int) := of_decide_eq_true (by first | (with_reducible assumption) | assumption)
                              obtain ⟨i033, hi033, _, hsz33, _⟩ := info_parts info9
                              have hroom33 : t233.length ≤ co14 := (Kd.R_reads' HO_7.out).2.1
                              have hC33 : Kd.C Kd.string _ Ao14 t233.length t233 := (Kd.R_reads' HO_7.out).2.2
                              have hcut33 := cut_to (P := Try.prog) 22 9 .i64 Try.underlying22 hi033 Ao14 t233.length co14 x14_2 (of_decide_eq_true (by first | (with_reducible assumption) | assumption)) q33 hroom33
                              have hr33 := Kd.C_take (m := (x14_2 : Int).toNat) hC33 (by omega)
                              have hy33 : y253.length = (x14_2 : Int).toNat := (by rw [Ny253.out, List.length_take]; omega)
                              rw [← Ny253.out] at hr33
                              rw [← hy33] at hcut33
                              have HR256 := Aside0.mk hr33
                              have HC256 := Aside0.mk (show y253.length ≤ co14 from by omega)
                              clear hr33 hC33 hroom33 hi033 hsz33
                              have KY33 := Aside0.mk hy33
                              clear hy33
                              have KL33 := Aside0.mk (show (x14_2 : Int).toNat ≤ t233.length from by omega)
                              replace q33 := eq_true q33
                              go_wp2_with (first | ((with_reducible refine gate_callee (f := 19) rfl ?_); refine goesL_ (some 93) rfl rfl Try.func19 (by kernel_rfl) rfl #[.slice Ao14 y253.length co14] rfl (by (try simp only [List.map_toArray, List.map_cons, List.map_nil]); first | done | rfl | (simp only [List.length_drop, List.length_take]; rfl)) ?_; (with_reducible refine (frames_Join.calls k2 _ _ y253 t257 t258 t259 t260 _ ?side1 ?side2 A28.out).mono ?_); (case side1 => repeat (first | exact (by repeat (first | (with_reducible exact HR256.out) | (with_reducible refine Kd.C_alloc ?_ _) | (with_reducible refine Kd.C_drewN ?_ _) | (with_reducible refine Kd.C_drew ?_) | exact HR256.out)) | (with_reducible refine Kd.C_alloc ?_ _) | (with_reducible refine Kd.C_drewN ?_ _) | (with_reducible refine Kd.C_drew ?_))); (case side2 => exact HC256.out); rintro e w34 ⟨rfl, hb⟩; refine ⟨_, rfl, ?_⟩; have n0_ := Aside0.mk (Kd.R_below (by (with_reducible repeat (first | apply Kd.R_alloc | apply Kd.R_drewN | apply Kd.R_drew)); exact HO_7.out) hb); have n1_ := Aside0.mk (Kd.C_below (by repeat (first | (with_reducible exact HR256.out) | (with_reducible refine Kd.C_alloc ?_ _) | (with_reducible refine Kd.C_drewN ?_ _) | (with_reducible refine Kd.C_drew ?_) | exact HR256.out)) hb); have n2_ := Aside0.mk (below_step (by repeat (first | (with_reducible first | exact HB.out | apply below_alloc | apply pw_below_drewN | apply below_drew1) | exact HB.out)) hb); clear HO_7; clear HR256; clear HB; have HO_7 := n0_; have HR256 := n1_; have HB := n2_; clear n0_ n1_ n2_; (try clear hb); (try clear hb2); (try clear hk); (try clear hi); have p261 : 0 ≤ (x14_2 : Int) := of_decide_eq_true (by first | (with_reducible assumption) | assumption); have q261 : x14_2 < (t233.length : Int) := of_decide_eq_true (by first | (with_reducible assumption) | assumption); obtain ⟨ad261, e261, hx261_0⟩ := Kd.at_string (Kd.R_reads' HO_7.out).2.2 x14_2 p261 q261; cases e261; replace p261 := eq_true p261; replace q261 := eq_true q261))
                              go_ret
                              exact ⟨by first | rfl | (simp [errW_none, errW_some] <;> rfl) | (simp [*, errW_none, errW_some] <;> rfl), by repeat (first | (with_reducible first | exact HB.out | apply below_alloc | apply pw_below_drewN | apply below_drew1) | exact HB.out)⟩
                          · rw [if_neg c29] at H
                            have c29b0 : (t260 == 43) = false := beq_eq_false_iff_ne.mpr c29
                            have c29b1 : (t260 != 43) = true := bne_iff_ne.mpr c29
                            obtain rfl := Option.some.inj H
                            have q35 : (x14_2 : Int) ≤ ((t233.length : Int) : Int) := of_decide_eq_true (by first | (with_reducible assumption) | assumption)
                            obtain ⟨i035, hi035, _, hsz35, _⟩ := info_parts info9
                            have hroom35 : t233.length ≤ co14 := (Kd.R_reads' HO_7.out).2.1
                            have hC35 : Kd.C Kd.string _ Ao14 t233.length t233 := (Kd.R_reads' HO_7.out).2.2
                            have hcut35 := cut_to (P := Try.prog) 22 9 .i64 Try.underlying22 hi035 Ao14 t233.length co14 x14_2 (of_decide_eq_true (by first | (with_reducible assumption) | assumption)) q35 hroom35
                            have hr35 := Kd.C_take (m := (x14_2 : Int).toNat) hC35 (by omega)
                            have hy35 : y253.length = (x14_2 : Int).toNat := (by rw [Ny253.out, List.length_take]; omega)
                            rw [← Ny253.out] at hr35
                            rw [← hy35] at hcut35
                            have HR256 := Aside0.mk hr35
                            have HC256 := Aside0.mk (show y253.length ≤ co14 from by omega)
                            clear hr35 hC35 hroom35 hi035 hsz35
                            have KY35 := Aside0.mk hy35
                            clear hy35
                            have KL35 := Aside0.mk (show (x14_2 : Int).toNat ≤ t233.length from by omega)
                            replace q35 := eq_true q35
                            go_wp2_with (first | ((with_reducible refine gate_callee (f := 19) rfl ?_); refine goesL_ (some 93) rfl rfl Try.func19 (by kernel_rfl) rfl #[.slice Ao14 y253.length co14] rfl (by (try simp only [List.map_toArray, List.map_cons, List.map_nil]); first | done | rfl | (simp only [List.length_drop, List.length_take]; rfl)) ?_; (with_reducible refine (frames_Join.calls k2 _ _ y253 t257 t258 t259 t260 _ ?side1 ?side2 A28.out).mono ?_); (case side1 => repeat (first | exact (by repeat (first | (with_reducible exact HR256.out) | (with_reducible refine Kd.C_alloc ?_ _) | (with_reducible refine Kd.C_drewN ?_ _) | (with_reducible refine Kd.C_drew ?_) | exact HR256.out)) | (with_reducible refine Kd.C_alloc ?_ _) | (with_reducible refine Kd.C_drewN ?_ _) | (with_reducible refine Kd.C_drew ?_))); (case side2 => exact HC256.out); rintro e w36 ⟨rfl, hb⟩; refine ⟨_, rfl, ?_⟩; have n0_ := Aside0.mk (Kd.R_below (by (with_reducible repeat (first | apply Kd.R_alloc | apply Kd.R_drewN | apply Kd.R_drew)); exact HO_7.out) hb); have n1_ := Aside0.mk (Kd.C_below (by repeat (first | (with_reducible exact HR256.out) | (with_reducible refine Kd.C_alloc ?_ _) | (with_reducible refine Kd.C_drewN ?_ _) | (with_reducible refine Kd.C_drew ?_) | exact HR256.out)) hb); have n2_ := Aside0.mk (below_step (by repeat (first | (with_reducible first | exact HB.out | apply below_alloc | apply pw_below_drewN | apply below_drew1) | exact HB.out)) hb); clear HO_7; clear HR256; clear HB; have HO_7 := n0_; have HR256 := n1_; have HB := n2_; clear n0_ n1_ n2_; (try clear hb); (try clear hb2); (try clear hk); (try clear hi)))
                            go_ret
                            exact ⟨by first | rfl | (simp [errW_none, errW_some] <;> rfl) | (simp [*, errW_none, errW_some] <;> rfl), by repeat (first | (with_reducible first | exact HB.out | apply below_alloc | apply pw_below_drewN | apply below_drew1) | exact HB.out)⟩
                        · rw [if_neg c27] at H
                          exact absurd H (by simp)
                      · rw [if_neg c26] at H
                        exact absurd H (by simp)
                    · rw [if_neg c25] at H
                      have c25b0 : decide (x14_2 < (t233.length : Int)) = false := decide_eq_false c25
                      clear c25
                      replace H := Option.bind_eq_some_iff.mp H
                      obtain ⟨t262, A370, H⟩ := H
                      replace H : (some t262) = some r := H
                      have A37 := Aside0.mk A370
                      clear A370
                      obtain rfl := Option.some.inj H
                      go_wp2_with (first | ((with_reducible refine gate_callee (f := 18) rfl ?_); refine goesL_ (some 108) rfl rfl Try.func18 (by kernel_rfl) rfl #[] rfl (by (try simp only [List.map_toArray, List.map_cons, List.map_nil]); first | done | rfl | (simp only [List.length_drop, List.length_take]; rfl)) ?_; (with_reducible refine (stevedorelaw04_awake.calls k2  t262 _ A37.out).mono ?_); rintro e w38 ⟨rfl, hb⟩; refine ⟨_, rfl, ?_⟩; have n0_ := Aside0.mk (Kd.R_below (by (with_reducible repeat (first | apply Kd.R_alloc | apply Kd.R_drewN | apply Kd.R_drew)); exact HO_7.out) hb); have n1_ := Aside0.mk (below_step (by repeat (first | (with_reducible first | exact HB.out | apply below_alloc | apply pw_below_drewN | apply below_drew1) | exact HB.out)) hb); clear HO_7; clear HB; have HO_7 := n0_; have HB := n1_; clear n0_ n1_; (try clear hb); (try clear hb2); (try clear hk); (try clear hi)))
                      go_ret
                      exact ⟨by first | rfl | (simp [errW_none, errW_some] <;> rfl) | (simp [*, errW_none, errW_some] <;> rfl), by repeat (first | (with_reducible first | exact HB.out | apply below_alloc | apply pw_below_drewN | apply below_drew1) | exact HB.out)⟩
        · rw [if_neg c10] at H
          exact absurd H (by simp)
      · rw [if_neg c9] at H
        exact absurd H (by simp)
  · rw [if_neg c5] at H
    have c5b0 : (t234 == 0) = false := beq_eq_false_iff_ne.mpr c5
    have c5b1 : (t234 != 0) = true := bne_iff_ne.mpr c5
    by_cases c39 : t234 = 43
    · rw [if_pos c39] at H
      have c39b0 : (t234 == 43) = true := beq_iff_eq.mpr c39
      have c39b1 : (t234 != 43) = false := bne_eq_false_iff_eq.mpr c39
      clear c39
      by_cases c40 : (t233.length : Int) = 0
      · rw [if_pos c40] at H
        have c40b0 : ((t233.length : Int) == 0) = true := beq_iff_eq.mpr c40
        have c40b1 : ((t233.length : Int) != 0) = false := bne_eq_false_iff_eq.mpr c40
        clear c40
        by_cases c41 : a0 < 1
        · rw [if_pos c41] at H
          have c41b0 : decide (a0 < 1) = true := decide_eq_true c41
          clear c41
          replace H := Option.bind_eq_some_iff.mp H
          obtain ⟨t237, A420, H⟩ := H
          replace H : (some t237) = some r := H
          have A42 := Aside0.mk A420
          clear A420
          obtain rfl := Option.some.inj H
          go_enter Try.func5, Try.ntmps5
          go_wp2_with (first | ((with_reducible refine gate_callee (f := 13) rfl ?_); refine goesL_ (some 22) rfl rfl Try.func13 (by kernel_rfl) rfl #[.int .i64 a0, .string a1] rfl (by (try simp only [List.map_toArray, List.map_cons, List.map_nil]); first | done | rfl | (simp only [List.length_drop, List.length_take]; rfl)) ?_; (with_reducible refine (frames_Lay.calls k a0 a1 t233 t234 _ A4.out).mono ?_); rintro e w43 ⟨v235, rfl, ho0, hb⟩; refine ⟨_, rfl, ?_⟩; have n0_ := Aside0.mk (Kd.R_lower ho0 (below_size (by repeat (first | (with_reducible first | exact HB.out | apply below_alloc | apply pw_below_drewN | apply below_drew1) | exact HB.out)))); have n1_ := Aside0.mk (below_step (by repeat (first | (with_reducible first | exact HB.out | apply below_alloc | apply pw_below_drewN | apply below_drew1) | exact HB.out)) hb); clear HB; have HO236 := n0_; have HB := n1_; clear n0_ n1_; (try clear hb); (try clear hb2); (try clear hk); (try clear hi); (try clear ho0); obtain ⟨Ao44, co44, eo44⟩ := Kd.R_slice HO236.out; subst eo44) | (go_at_call 18; (with_reducible refine (stevedorelaw04_awake.calls k  t237 _ A42.out).mono ?_); rintro e w45 ⟨rfl, hb⟩; have n0_ := Aside0.mk (Kd.R_below (by (with_reducible repeat (first | apply Kd.R_alloc | apply Kd.R_drewN | apply Kd.R_drew)); exact HO236.out) hb); have n1_ := Aside0.mk (below_step (by repeat (first | (with_reducible first | exact HB.out | apply below_alloc | apply pw_below_drewN | apply below_drew1) | exact HB.out)) hb); clear HO236; clear HB; have HO236 := n0_; have HB := n1_; clear n0_ n1_; (try clear hb); (try clear hb2); (try clear hk); (try clear hi)))
          go_ret
          exact ⟨by first | rfl | (simp [errW_none, errW_some] <;> rfl) | (simp [*, errW_none, errW_some] <;> rfl), by repeat (first | (with_reducible first | exact HB.out | apply below_alloc | apply pw_below_drewN | apply below_drew1) | exact HB.out)⟩
        · rw [if_neg c41] at H
          have c41b0 : decide (a0 < 1) = false := decide_eq_false c41
          clear c41
          by_cases c46 : a0 > 2147483647
          · rw [if_pos c46] at H
            have c46b0 : decide (2147483647 < a0) = true := decide_eq_true c46
            clear c46
            replace H := Option.bind_eq_some_iff.mp H
            obtain ⟨t238, A470, H⟩ := H
            replace H : (some t238) = some r := H
            have A47 := Aside0.mk A470
            clear A470
            obtain rfl := Option.some.inj H
            go_enter Try.func5, Try.ntmps5
            go_wp2_with (first | ((with_reducible refine gate_callee (f := 13) rfl ?_); refine goesL_ (some 22) rfl rfl Try.func13 (by kernel_rfl) rfl #[.int .i64 a0, .string a1] rfl (by (try simp only [List.map_toArray, List.map_cons, List.map_nil]); first | done | rfl | (simp only [List.length_drop, List.length_take]; rfl)) ?_; (with_reducible refine (frames_Lay.calls k a0 a1 t233 t234 _ A4.out).mono ?_); rintro e w48 ⟨v235, rfl, ho0, hb⟩; refine ⟨_, rfl, ?_⟩; have n0_ := Aside0.mk (Kd.R_lower ho0 (below_size (by repeat (first | (with_reducible first | exact HB.out | apply below_alloc | apply pw_below_drewN | apply below_drew1) | exact HB.out)))); have n1_ := Aside0.mk (below_step (by repeat (first | (with_reducible first | exact HB.out | apply below_alloc | apply pw_below_drewN | apply below_drew1) | exact HB.out)) hb); clear HB; have HO236 := n0_; have HB := n1_; clear n0_ n1_; (try clear hb); (try clear hb2); (try clear hk); (try clear hi); (try clear ho0); obtain ⟨Ao49, co49, eo49⟩ := Kd.R_slice HO236.out; subst eo49) | (go_at_call 18; (with_reducible refine (stevedorelaw04_awake.calls k  t238 _ A47.out).mono ?_); rintro e w50 ⟨rfl, hb⟩; have n0_ := Aside0.mk (Kd.R_below (by (with_reducible repeat (first | apply Kd.R_alloc | apply Kd.R_drewN | apply Kd.R_drew)); exact HO236.out) hb); have n1_ := Aside0.mk (below_step (by repeat (first | (with_reducible first | exact HB.out | apply below_alloc | apply pw_below_drewN | apply below_drew1) | exact HB.out)) hb); clear HO236; clear HB; have HO236 := n0_; have HB := n1_; clear n0_ n1_; (try clear hb); (try clear hb2); (try clear hk); (try clear hi)))
            go_ret
            exact ⟨by first | rfl | (simp [errW_none, errW_some] <;> rfl) | (simp [*, errW_none, errW_some] <;> rfl), by repeat (first | (with_reducible first | exact HB.out | apply below_alloc | apply pw_below_drewN | apply below_drew1) | exact HB.out)⟩
          · rw [if_neg c46] at H
            have c46b0 : decide (2147483647 < a0) = false := decide_eq_false c46
            clear c46
            by_cases c51 : (a1.size : Int) > 440
            · rw [if_pos c51] at H
              have c51b0 : decide (440 < (a1.size : Int)) = true := decide_eq_true c51
              have c51b1 : decide (440 < a1.size) = true := decide_eq_true (by omega)
              clear c51
              replace H := Option.bind_eq_some_iff.mp H
              obtain ⟨t239, A520, H⟩ := H
              replace H : (some t239) = some r := H
              have A52 := Aside0.mk A520
              clear A520
              obtain rfl := Option.some.inj H
              go_enter Try.func5, Try.ntmps5
              go_wp2_with (first | ((with_reducible refine gate_callee (f := 13) rfl ?_); refine goesL_ (some 22) rfl rfl Try.func13 (by kernel_rfl) rfl #[.int .i64 a0, .string a1] rfl (by (try simp only [List.map_toArray, List.map_cons, List.map_nil]); first | done | rfl | (simp only [List.length_drop, List.length_take]; rfl)) ?_; (with_reducible refine (frames_Lay.calls k a0 a1 t233 t234 _ A4.out).mono ?_); rintro e w53 ⟨v235, rfl, ho0, hb⟩; refine ⟨_, rfl, ?_⟩; have n0_ := Aside0.mk (Kd.R_lower ho0 (below_size (by repeat (first | (with_reducible first | exact HB.out | apply below_alloc | apply pw_below_drewN | apply below_drew1) | exact HB.out)))); have n1_ := Aside0.mk (below_step (by repeat (first | (with_reducible first | exact HB.out | apply below_alloc | apply pw_below_drewN | apply below_drew1) | exact HB.out)) hb); clear HB; have HO236 := n0_; have HB := n1_; clear n0_ n1_; (try clear hb); (try clear hb2); (try clear hk); (try clear hi); (try clear ho0); obtain ⟨Ao54, co54, eo54⟩ := Kd.R_slice HO236.out; subst eo54) | (go_at_call 18; (with_reducible refine (stevedorelaw04_awake.calls k  t239 _ A52.out).mono ?_); rintro e w55 ⟨rfl, hb⟩; have n0_ := Aside0.mk (Kd.R_below (by (with_reducible repeat (first | apply Kd.R_alloc | apply Kd.R_drewN | apply Kd.R_drew)); exact HO236.out) hb); have n1_ := Aside0.mk (below_step (by repeat (first | (with_reducible first | exact HB.out | apply below_alloc | apply pw_below_drewN | apply below_drew1) | exact HB.out)) hb); clear HO236; clear HB; have HO236 := n0_; have HB := n1_; clear n0_ n1_; (try clear hb); (try clear hb2); (try clear hk); (try clear hi)))
              go_ret
              exact ⟨by first | rfl | (simp [errW_none, errW_some] <;> rfl) | (simp [*, errW_none, errW_some] <;> rfl), by repeat (first | (with_reducible first | exact HB.out | apply below_alloc | apply pw_below_drewN | apply below_drew1) | exact HB.out)⟩
            · rw [if_neg c51] at H
              have c51b0 : decide (440 < (a1.size : Int)) = false := decide_eq_false c51
              have c51b1 : decide (440 < a1.size) = false := decide_eq_false (by omega)
              clear c51
              obtain rfl := Option.some.inj H
              go_enter Try.func5, Try.ntmps5
              go_wp2_with (first | ((with_reducible refine gate_callee (f := 13) rfl ?_); refine goesL_ (some 22) rfl rfl Try.func13 (by kernel_rfl) rfl #[.int .i64 a0, .string a1] rfl (by (try simp only [List.map_toArray, List.map_cons, List.map_nil]); first | done | rfl | (simp only [List.length_drop, List.length_take]; rfl)) ?_; (with_reducible refine (frames_Lay.calls k a0 a1 t233 t234 _ A4.out).mono ?_); rintro e w56 ⟨v235, rfl, ho0, hb⟩; refine ⟨_, rfl, ?_⟩; have n0_ := Aside0.mk (Kd.R_lower ho0 (below_size (by repeat (first | (with_reducible first | exact HB.out | apply below_alloc | apply pw_below_drewN | apply below_drew1) | exact HB.out)))); have n1_ := Aside0.mk (below_step (by repeat (first | (with_reducible first | exact HB.out | apply below_alloc | apply pw_below_drewN | apply below_drew1) | exact HB.out)) hb); clear HB; have HO236 := n0_; have HB := n1_; clear n0_ n1_; (try clear hb); (try clear hb2); (try clear hk); (try clear hi); (try clear ho0); obtain ⟨Ao57, co57, eo57⟩ := Kd.R_slice HO236.out; subst eo57))
              go_ret
              exact ⟨by first | rfl | (simp [errW_none, errW_some] <;> rfl) | (simp [*, errW_none, errW_some] <;> rfl), by repeat (first | (with_reducible first | exact HB.out | apply below_alloc | apply pw_below_drewN | apply below_drew1) | exact HB.out)⟩
      · rw [if_neg c40] at H
        have c40b0 : ((t233.length : Int) == 0) = false := beq_eq_false_iff_ne.mpr c40
        have c40b1 : ((t233.length : Int) != 0) = true := bne_iff_ne.mpr c40
        have c40b2 : ¬ (t233 = []) := fun h_ => c40 (by rw [h_]; rfl)
        obtain rfl := Option.some.inj H
        go_enter Try.func5, Try.ntmps5
        go_wp2_with (first | ((with_reducible refine gate_callee (f := 13) rfl ?_); refine goesL_ (some 22) rfl rfl Try.func13 (by kernel_rfl) rfl #[.int .i64 a0, .string a1] rfl (by (try simp only [List.map_toArray, List.map_cons, List.map_nil]); first | done | rfl | (simp only [List.length_drop, List.length_take]; rfl)) ?_; (with_reducible refine (frames_Lay.calls k a0 a1 t233 t234 _ A4.out).mono ?_); rintro e w58 ⟨v235, rfl, ho0, hb⟩; refine ⟨_, rfl, ?_⟩; have n0_ := Aside0.mk (Kd.R_lower ho0 (below_size (by repeat (first | (with_reducible first | exact HB.out | apply below_alloc | apply pw_below_drewN | apply below_drew1) | exact HB.out)))); have n1_ := Aside0.mk (below_step (by repeat (first | (with_reducible first | exact HB.out | apply below_alloc | apply pw_below_drewN | apply below_drew1) | exact HB.out)) hb); clear HB; have HO236 := n0_; have HB := n1_; clear n0_ n1_; (try clear hb); (try clear hb2); (try clear hk); (try clear hi); (try clear ho0); obtain ⟨Ao59, co59, eo59⟩ := Kd.R_slice HO236.out; subst eo59))
        go_ret
        exact ⟨by first | rfl | (simp [errW_none, errW_some] <;> rfl) | (simp [*, errW_none, errW_some] <;> rfl), by repeat (first | (with_reducible first | exact HB.out | apply below_alloc | apply pw_below_drewN | apply below_drew1) | exact HB.out)⟩
    · rw [if_neg c39] at H
      have c39b0 : (t234 == 43) = false := beq_eq_false_iff_ne.mpr c39
      have c39b1 : (t234 != 43) = true := bne_iff_ne.mpr c39
      obtain rfl := Option.some.inj H
      go_enter Try.func5, Try.ntmps5
      go_wp2_with (first | ((with_reducible refine gate_callee (f := 13) rfl ?_); refine goesL_ (some 22) rfl rfl Try.func13 (by kernel_rfl) rfl #[.int .i64 a0, .string a1] rfl (by (try simp only [List.map_toArray, List.map_cons, List.map_nil]); first | done | rfl | (simp only [List.length_drop, List.length_take]; rfl)) ?_; (with_reducible refine (frames_Lay.calls k a0 a1 t233 t234 _ A4.out).mono ?_); rintro e w60 ⟨v235, rfl, ho0, hb⟩; refine ⟨_, rfl, ?_⟩; have n0_ := Aside0.mk (Kd.R_lower ho0 (below_size (by repeat (first | (with_reducible first | exact HB.out | apply below_alloc | apply pw_below_drewN | apply below_drew1) | exact HB.out)))); have n1_ := Aside0.mk (below_step (by repeat (first | (with_reducible first | exact HB.out | apply below_alloc | apply pw_below_drewN | apply below_drew1) | exact HB.out)) hb); clear HB; have HO236 := n0_; have HB := n1_; clear n0_ n1_; (try clear hb); (try clear hb2); (try clear hk); (try clear hi); (try clear ho0)))
      go_ret
      exact ⟨by first | rfl | (simp [errW_none, errW_some] <;> rfl) | (simp [*, errW_none, errW_some] <;> rfl), by repeat (first | (with_reducible first | exact HB.out | apply below_alloc | apply pw_below_drewN | apply below_drew1) | exact HB.out)⟩

end Go.Proofs.Ytojehachhfcfaaa.Print
