-- Written by xprint.py, a program of this session, by the kit's printer.
import Derived.Test.YtcdndnebmonlfaaPrint0
import Derived.Test.YtcdndnebmonlfaaPrint1
import Derived.Test.YtcdndnebmonlfaaPrint2
namespace Go.Proofs.Ytcdndnebmonlfaa.Print
open Go.RowKit Go.Proofs.YtcdndnebmonlfaaW.PrintWords Go.Proofs.YtcdndnebmonlfaaW.PrintLast Go.Proofs.YtcdndnebmonlfaaW.PrintMore
attribute [local go_sem] max2_int min2_int max_two min_two max_three min_three max_four min_four   -- for this text's walks alone
set_option linter.unusedVariables false
set_option linter.unusedSimpArgs false

/-! ### stevedorelaw01_NumsNaming: function 10 -/
def stevedorelaw01_NumsNaming.f (k : Nat) (a0 : ByteArray) : Option (Bool) := (nums_Name.f k a0).bind fun t189 => ((stevedoreref01_Name.f k a0).bind fun t190 => (if t189 = t190 then ((stevedorelaw01_awake.f k).bind fun t191 => (some t191)) else (some false)))
theorem stevedorelaw01_NumsNaming.mono : ∀ a0 k, LeO (stevedorelaw01_NumsNaming.f k a0) (stevedorelaw01_NumsNaming.f (k + 1) a0) := by
  intro a0 k
  unfold stevedorelaw01_NumsNaming.f
  repeat' first
      | (with_reducible exact nums_Name.mono _ _)
      | (with_reducible exact stevedorelaw01_awake.mono _)
      | (with_reducible exact stevedoreref01_Name.mono _ _)
      | (with_reducible exact LeO.refl _)
      | (with_reducible exact LeO.none _)
      | (with_reducible refine LeO.ite ?_ ?_)
      | (with_reducible refine LeO.bind ?_ (fun _ => ?_))
      | exact nums_Name.mono _ _
      | exact stevedorelaw01_awake.mono _
      | exact stevedoreref01_Name.mono _ _
      | exact LeO.none _
      | refine LeO.ite ?_ ?_
      | refine LeO.bind ?_ (fun _ => ?_)
set_option maxHeartbeats 8000000 in
set_option maxRecDepth 100000 in
theorem stevedorelaw01_NumsNaming.calls (k : Nat) (a0 : ByteArray) (r : Bool) (w : World) (h : stevedorelaw01_NumsNaming.f k a0 = some r) :
    Calls Try.prog 10 #[.string a0] w fun e w' => e = .returned (.bool r) ∧ Below w.heap.size w w' := by
  have HB := Aside0.mk (Below.refl w.heap.size w)
  have H : ((nums_Name.f k a0).bind fun t189 => ((stevedoreref01_Name.f k a0).bind fun t190 => (if t189 = t190 then ((stevedorelaw01_awake.f k).bind fun t191 => (some t191)) else (some false)))) = some r := h
  clear h
  replace H := Option.bind_eq_some_iff.mp H
  obtain ⟨t189, A20, H⟩ := H
  replace H : ((stevedoreref01_Name.f k a0).bind fun t190 => (if t189 = t190 then ((stevedorelaw01_awake.f k).bind fun t191 => (some t191)) else (some false))) = some r := H
  have A2 := Aside0.mk A20
  clear A20
  replace H := Option.bind_eq_some_iff.mp H
  obtain ⟨t190, A30, H⟩ := H
  replace H : (if t189 = t190 then ((stevedorelaw01_awake.f k).bind fun t191 => (some t191)) else (some false)) = some r := H
  have A3 := Aside0.mk A30
  clear A30
  by_cases c4 : t189 = t190
  · rw [if_pos c4] at H
    have c4b0 : (t189 == t190) = true := beq_iff_eq.mpr c4
    have c4b1 : (t189 != t190) = false := bne_eq_false_iff_eq.mpr c4
    clear c4
    replace H := Option.bind_eq_some_iff.mp H
    obtain ⟨t191, A50, H⟩ := H
    replace H : (some t191) = some r := H
    have A5 := Aside0.mk A50
    clear A50
    obtain rfl := Option.some.inj H
    go_enter Try.func10, Try.ntmps10
    go_wp2_with (first | ((with_reducible refine gate_callee (f := 16) rfl ?_); refine goesL_ (some 4) rfl rfl Try.func16 (by kernel_rfl) rfl #[.string a0] rfl (by (try simp only [List.map_toArray, List.map_cons, List.map_nil]); first | done | rfl | (simp only [List.length_drop, List.length_take]; rfl)) ?_; (with_reducible refine (nums_Name.calls k a0 t189 _ A2.out).mono ?_); rintro e w' ⟨rfl, ⟨nd, rfl⟩⟩; refine ⟨_, rfl, ?_⟩) | ((with_reducible refine gate_callee (f := 17) rfl ?_); refine goesL_ (some 6) rfl rfl Try.func17 (by kernel_rfl) rfl #[.string a0] rfl (by (try simp only [List.map_toArray, List.map_cons, List.map_nil]); first | done | rfl | (simp only [List.length_drop, List.length_take]; rfl)) ?_; (with_reducible refine (stevedoreref01_Name.calls k a0 t190 _ A3.out).mono ?_); rintro e w' ⟨rfl, ⟨nd, rfl⟩⟩; refine ⟨_, rfl, ?_⟩) | (go_at_call 20; (with_reducible refine (stevedorelaw01_awake.calls k  t191 _ A5.out).mono ?_); rintro e w6 ⟨rfl, hb⟩; have n0_ := Aside0.mk (below_step (by repeat (first | (with_reducible first | exact HB.out | apply below_alloc | apply pw_below_drewN | apply below_drew1) | exact HB.out)) hb); clear HB; have HB := n0_; clear n0_; (try clear hb); (try clear hb2); (try clear hk); (try clear hi)))
    go_ret
    exact ⟨by first | rfl | (simp [errW_none, errW_some] <;> rfl) | (simp [*, errW_none, errW_some] <;> rfl), by repeat (first | (with_reducible first | exact HB.out | apply below_alloc | apply pw_below_drewN | apply below_drew1) | exact HB.out)⟩
  · rw [if_neg c4] at H
    have c4b0 : (t189 == t190) = false := beq_eq_false_iff_ne.mpr c4
    have c4b1 : (t189 != t190) = true := bne_iff_ne.mpr c4
    obtain rfl := Option.some.inj H
    go_enter Try.func10, Try.ntmps10
    go_wp2_with (first | ((with_reducible refine gate_callee (f := 16) rfl ?_); refine goesL_ (some 4) rfl rfl Try.func16 (by kernel_rfl) rfl #[.string a0] rfl (by (try simp only [List.map_toArray, List.map_cons, List.map_nil]); first | done | rfl | (simp only [List.length_drop, List.length_take]; rfl)) ?_; (with_reducible refine (nums_Name.calls k a0 t189 _ A2.out).mono ?_); rintro e w' ⟨rfl, ⟨nd, rfl⟩⟩; refine ⟨_, rfl, ?_⟩) | ((with_reducible refine gate_callee (f := 17) rfl ?_); refine goesL_ (some 6) rfl rfl Try.func17 (by kernel_rfl) rfl #[.string a0] rfl (by (try simp only [List.map_toArray, List.map_cons, List.map_nil]); first | done | rfl | (simp only [List.length_drop, List.length_take]; rfl)) ?_; (with_reducible refine (stevedoreref01_Name.calls k a0 t190 _ A3.out).mono ?_); rintro e w' ⟨rfl, ⟨nd, rfl⟩⟩; refine ⟨_, rfl, ?_⟩))
    go_ret
    exact ⟨by first | rfl | (simp [errW_none, errW_some] <;> rfl) | (simp [*, errW_none, errW_some] <;> rfl), by repeat (first | (with_reducible first | exact HB.out | apply below_alloc | apply pw_below_drewN | apply below_drew1) | exact HB.out)⟩

/-- THE ONE PURE STATEMENT of stevedorelaw01_NumsNaming: yours. -/
def stevedorelaw01_NumsNaming.Pure : Prop := ∀ (a0 : ByteArray), a0.size ≤ 140737488351232 → ∃ k, stevedorelaw01_NumsNaming.f k a0 = some true
theorem stevedorelaw01_NumsNaming.walk (P : stevedorelaw01_NumsNaming.Pure) (a0 : ByteArray) (w : World) (w0 : a0.size ≤ 140737488351232) :
    Calls Try.prog 10 #[.string a0] w fun e w' => e = .returned (.bool true) ∧ Below w.heap.size w w' := by
  obtain ⟨k, h⟩ := P a0 w0
  refine (stevedorelaw01_NumsNaming.calls k a0 true w h).mono ?_
  rintro e w' ⟨rfl, hd⟩
  exact ⟨rfl, hd⟩

/-! ### stevedorelaw01_NumsSumming: function 11 -/
def stevedorelaw01_NumsSumming.f (k : Nat) (a0 : ByteArray) : Option (Bool) := (nums_Sum.f k a0).bind fun t192 => ((stevedoreref01_Sum.f k a0).bind fun t193 => (if t192 = t193 then ((stevedorelaw01_awake.f k).bind fun t194 => (some t194)) else (some false)))
theorem stevedorelaw01_NumsSumming.mono : ∀ a0 k, LeO (stevedorelaw01_NumsSumming.f k a0) (stevedorelaw01_NumsSumming.f (k + 1) a0) := by
  intro a0 k
  unfold stevedorelaw01_NumsSumming.f
  repeat' first
      | (with_reducible exact nums_Sum.mono _ _)
      | (with_reducible exact stevedorelaw01_awake.mono _)
      | (with_reducible exact stevedoreref01_Sum.mono _ _)
      | (with_reducible exact LeO.refl _)
      | (with_reducible exact LeO.none _)
      | (with_reducible refine LeO.ite ?_ ?_)
      | (with_reducible refine LeO.bind ?_ (fun _ => ?_))
      | exact nums_Sum.mono _ _
      | exact stevedorelaw01_awake.mono _
      | exact stevedoreref01_Sum.mono _ _
      | exact LeO.none _
      | refine LeO.ite ?_ ?_
      | refine LeO.bind ?_ (fun _ => ?_)
set_option maxHeartbeats 8000000 in
set_option maxRecDepth 100000 in
theorem stevedorelaw01_NumsSumming.calls (k : Nat) (a0 : ByteArray) (r : Bool) (w : World) (h : stevedorelaw01_NumsSumming.f k a0 = some r) :
    Calls Try.prog 11 #[.string a0] w fun e w' => e = .returned (.bool r) ∧ Below w.heap.size w w' := by
  have HB := Aside0.mk (Below.refl w.heap.size w)
  have H : ((nums_Sum.f k a0).bind fun t192 => ((stevedoreref01_Sum.f k a0).bind fun t193 => (if t192 = t193 then ((stevedorelaw01_awake.f k).bind fun t194 => (some t194)) else (some false)))) = some r := h
  clear h
  replace H := Option.bind_eq_some_iff.mp H
  obtain ⟨t192, A20, H⟩ := H
  replace H : ((stevedoreref01_Sum.f k a0).bind fun t193 => (if t192 = t193 then ((stevedorelaw01_awake.f k).bind fun t194 => (some t194)) else (some false))) = some r := H
  have A2 := Aside0.mk A20
  clear A20
  replace H := Option.bind_eq_some_iff.mp H
  obtain ⟨t193, A30, H⟩ := H
  replace H : (if t192 = t193 then ((stevedorelaw01_awake.f k).bind fun t194 => (some t194)) else (some false)) = some r := H
  have A3 := Aside0.mk A30
  clear A30
  by_cases c4 : t192 = t193
  · rw [if_pos c4] at H
    have c4b0 : (t192 == t193) = true := beq_iff_eq.mpr c4
    have c4b1 : (t192 != t193) = false := bne_eq_false_iff_eq.mpr c4
    clear c4
    replace H := Option.bind_eq_some_iff.mp H
    obtain ⟨t194, A50, H⟩ := H
    replace H : (some t194) = some r := H
    have A5 := Aside0.mk A50
    clear A50
    obtain rfl := Option.some.inj H
    go_enter Try.func11, Try.ntmps11
    go_wp2_with (first | ((with_reducible refine gate_callee (f := 18) rfl ?_); refine goesL_ (some 4) rfl rfl Try.func18 (by kernel_rfl) rfl #[.string a0] rfl (by (try simp only [List.map_toArray, List.map_cons, List.map_nil]); first | done | rfl | (simp only [List.length_drop, List.length_take]; rfl)) ?_; (with_reducible refine (nums_Sum.calls k a0 t192 _ A2.out).mono ?_); rintro e w' ⟨rfl, ⟨nd, rfl⟩⟩; refine ⟨_, rfl, ?_⟩) | ((with_reducible refine gate_callee (f := 19) rfl ?_); refine goesL_ (some 6) rfl rfl Try.func19 (by kernel_rfl) rfl #[.string a0] rfl (by (try simp only [List.map_toArray, List.map_cons, List.map_nil]); first | done | rfl | (simp only [List.length_drop, List.length_take]; rfl)) ?_; (with_reducible refine (stevedoreref01_Sum.calls k a0 t193 _ A3.out).mono ?_); rintro e w' ⟨rfl, ⟨nd, rfl⟩⟩; refine ⟨_, rfl, ?_⟩) | (go_at_call 20; (with_reducible refine (stevedorelaw01_awake.calls k  t194 _ A5.out).mono ?_); rintro e w6 ⟨rfl, hb⟩; have n0_ := Aside0.mk (below_step (by repeat (first | (with_reducible first | exact HB.out | apply below_alloc | apply pw_below_drewN | apply below_drew1) | exact HB.out)) hb); clear HB; have HB := n0_; clear n0_; (try clear hb); (try clear hb2); (try clear hk); (try clear hi)))
    go_ret
    exact ⟨by first | rfl | (simp [errW_none, errW_some] <;> rfl) | (simp [*, errW_none, errW_some] <;> rfl), by repeat (first | (with_reducible first | exact HB.out | apply below_alloc | apply pw_below_drewN | apply below_drew1) | exact HB.out)⟩
  · rw [if_neg c4] at H
    have c4b0 : (t192 == t193) = false := beq_eq_false_iff_ne.mpr c4
    have c4b1 : (t192 != t193) = true := bne_iff_ne.mpr c4
    obtain rfl := Option.some.inj H
    go_enter Try.func11, Try.ntmps11
    go_wp2_with (first | ((with_reducible refine gate_callee (f := 18) rfl ?_); refine goesL_ (some 4) rfl rfl Try.func18 (by kernel_rfl) rfl #[.string a0] rfl (by (try simp only [List.map_toArray, List.map_cons, List.map_nil]); first | done | rfl | (simp only [List.length_drop, List.length_take]; rfl)) ?_; (with_reducible refine (nums_Sum.calls k a0 t192 _ A2.out).mono ?_); rintro e w' ⟨rfl, ⟨nd, rfl⟩⟩; refine ⟨_, rfl, ?_⟩) | ((with_reducible refine gate_callee (f := 19) rfl ?_); refine goesL_ (some 6) rfl rfl Try.func19 (by kernel_rfl) rfl #[.string a0] rfl (by (try simp only [List.map_toArray, List.map_cons, List.map_nil]); first | done | rfl | (simp only [List.length_drop, List.length_take]; rfl)) ?_; (with_reducible refine (stevedoreref01_Sum.calls k a0 t193 _ A3.out).mono ?_); rintro e w' ⟨rfl, ⟨nd, rfl⟩⟩; refine ⟨_, rfl, ?_⟩))
    go_ret
    exact ⟨by first | rfl | (simp [errW_none, errW_some] <;> rfl) | (simp [*, errW_none, errW_some] <;> rfl), by repeat (first | (with_reducible first | exact HB.out | apply below_alloc | apply pw_below_drewN | apply below_drew1) | exact HB.out)⟩

/-- THE ONE PURE STATEMENT of stevedorelaw01_NumsSumming: yours. -/
def stevedorelaw01_NumsSumming.Pure : Prop := ∀ (a0 : ByteArray), a0.size ≤ 140737488351232 → ∃ k, stevedorelaw01_NumsSumming.f k a0 = some true
theorem stevedorelaw01_NumsSumming.walk (P : stevedorelaw01_NumsSumming.Pure) (a0 : ByteArray) (w : World) (w0 : a0.size ≤ 140737488351232) :
    Calls Try.prog 11 #[.string a0] w fun e w' => e = .returned (.bool true) ∧ Below w.heap.size w w' := by
  obtain ⟨k, h⟩ := P a0 w0
  refine (stevedorelaw01_NumsSumming.calls k a0 true w h).mono ?_
  rintro e w' ⟨rfl, hd⟩
  exact ⟨rfl, hd⟩

end Go.Proofs.Ytcdndnebmonlfaa.Print
