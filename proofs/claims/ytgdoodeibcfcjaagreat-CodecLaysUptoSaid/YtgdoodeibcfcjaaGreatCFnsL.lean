/- The codec's functions that lay and read a thing's fields, walked in both modes: lines, item. Printed by cgen.py. -/
import Derived.Test.YtgdoodeibcfcjaaGreatCFns
set_option linter.unusedVariables false
set_option linter.unusedSimpArgs false
namespace Go.Proofs.YtgdoodeibcfcjaaGreat.Wire
open Go.RowKit Go.Proofs.YtgdoodeibcfcjaaGreat.NumsPure Go.Proofs.YtgdoodeibcfcjaaGreat.CPure Go.Proofs.YtgdoodeibcfcjaaGreat.Own
open Go.Proofs.YtgdoodeibcfcjaaGreat.Put (digits digits_lt digits_ge)
open Go.Proofs.YtgdoodeibcfcjaaGreat.BldS (Keeps)
def sc_lines (o : Nat) : Sc := (rep 8 (fun i => (at_ .t [o + i * 6]) ++ (at_ .n [o + i * 6 + 1, o + i * 6 + 2, o + i * 6 + 3, o + i * 6 + 4, o + i * 6 + 5])))
set_option maxHeartbeats 8000000 in
set_option maxRecDepth 100000 in
theorem lines_w : WritesAt 71 sc_lines := by
  intro B wb bb xb o bs T vs w h hx hT hT2 hk hl
  have H0 : Aside0 (Wr B wb bb (bs ++ encAt ([]) vs) w ∧ Wk B bb w w) := ⟨by simpa [encAt] using h, Wk.refl _ _ _⟩
  have hxb : xb ≠ bb := h.bbT hx hT2
  have HX := Aside0.mk hx
  have HT := Aside0.mk (And.intro hT hT2)
  have HK := Aside0.mk hk
  have HL := Aside0.mk hl
  clear h hx hT hT2 hk hl
  have ES0 : Aside0 (sc_lines o = ([] : Sc) ++ (sc_lines o)) := ⟨rfl⟩
  go_enter Tryz.func71, Tryz.ntmps71
  have EQ1 : Aside0 (sc_lines o = ([]) ++ ((rep 8 (fun i => (at_ .t [o + i * 6]) ++ (at_ .n [o + i * 6 + 1, o + i * 6 + 2, o + i * 6 + 3, o + i * 6 + 4, o + i * 6 + 5]))) ++ (([] : Sc)))) := ⟨by rw [ES0.out]; first | rfl | simp [sc_lines, List.append_assoc]⟩
  go_wp2_with (fail)
  go_loopw [5] (fun v_ wr => ∃ i : Nat, i ≤ 8 ∧ v_ = .int .i64 i ∧ Aside0 (Wr B wb bb (bs ++ encAt (([]) ++ rep i (fun i => (at_ .t [o + i * 6]) ++ (at_ .n [o + i * 6 + 1, o + i * 6 + 2, o + i * 6 + 3, o + i * 6 + 4, o + i * 6 + 5]))) vs) wr ∧ Wk B bb w wr)) (fun v_ _ => 8 - (intOf v_).toNat)
  case atStart => exact ⟨0, by omega, rfl, ⟨by simpa [rep] using H0.out⟩⟩
  case round =>
    obtain ⟨i, hi, rfl, HI⟩ := hrel
    clear H0
    by_cases hlt : i < 8
    · obtain ⟨rest, hr⟩ := rep_split 8 (fun i => (at_ .t [o + i * 6]) ++ (at_ .n [o + i * 6 + 1, o + i * 6 + 2, o + i * 6 + 3, o + i * 6 + 4, o + i * 6 + 5])) i hlt
      have ES1 : Aside0 (sc_lines o = (([]) ++ rep i (fun i => (at_ .t [o + i * 6]) ++ (at_ .n [o + i * 6 + 1, o + i * 6 + 2, o + i * 6 + 3, o + i * 6 + 4, o + i * 6 + 5]))) ++ ((at_ .t [o + i * 6]) ++ (at_ .n [o + i * 6 + 1, o + i * 6 + 2, o + i * 6 + 3, o + i * 6 + 4, o + i * 6 + 5]) ++ (rest ++ (([] : Sc))))) := ⟨by rw [EQ1.out, hr]; simp [List.append_assoc]⟩
      clear hr
      have E2 : Aside0 (sc_lines o = ((([]) ++ rep i (fun i => (at_ .t [o + i * 6]) ++ (at_ .n [o + i * 6 + 1, o + i * 6 + 2, o + i * 6 + 3, o + i * 6 + 4, o + i * 6 + 5]))) ++ (at_ .t [o + i * 6])) ++ ((at_ .n [o + i * 6 + 1, o + i * 6 + 2, o + i * 6 + 3, o + i * 6 + 4, o + i * 6 + 5]) ++ (rest ++ (([] : Sc))))) := ⟨by rw [ES1.out]; first | rfl | simp [sc_lines, List.append_assoc]⟩
      have l2 : (bs ++ encAt (([]) ++ rep i (fun i => (at_ .t [o + i * 6]) ++ (at_ .n [o + i * 6 + 1, o + i * 6 + 2, o + i * 6 + 3, o + i * 6 + 4, o + i * 6 + 5]))) vs).length + (encAt (at_ .t [o + i * 6]) vs).length ≤ 140737488355328 := by
        have z := HL.out
        rw [E2.out, encAt_append, encAt_append] at z
        simp only [List.length_append] at z ⊢
        omega
      have k2 : OkAt (at_ .t [o + i * 6]) vs := by
        have z := HK.out
        rw [E2.out] at z
        exact z.left.right
      have L2 := Aside0.mk (And.intro l2 k2)
      clear l2 k2
      go_wp2_with (fail)
      first
        | (refine (texts_wc (alloc_below _ _) [o + i * 6] (cs_alloc _ _ _ _ rfl) HI.out.1 (HI.out.2.cs HX.out HT.out.1 hxb) HT.out.1 HT.out.2 rfl L2.out.2 L2.out.1 (by first | decide | simp)).mono ?_; rintro e x2 ⟨rfl, p1, p2⟩; have H2 : Aside0 (Wr B wb bb (bs ++ encAt ((([]) ++ rep i (fun i => (at_ .t [o + i * 6]) ++ (at_ .n [o + i * 6 + 1, o + i * 6 + 2, o + i * 6 + 3, o + i * 6 + 4, o + i * 6 + 5]))) ++ (at_ .t [o + i * 6])) vs) x2 ∧ Wk B bb w x2) := ⟨by rw [encAt_append, ← List.append_assoc]; exact p1, HI.out.2.trans p2⟩; clear p1 p2)
        | (go_region_held3 (fun _ => True) (trivial) ((go_at_call 58; refine (texts_wc (alloc_drew _ _) [o + i * 6] (cs_drew _ _ _ _ rfl) HI.out.1 (HI.out.2.cs HX.out HT.out.1 hxb) HT.out.1 HT.out.2 rfl L2.out.2 L2.out.1 (by first | decide | simp)).mono ?_; rintro e x2 ⟨rfl, p1, p2⟩; have H2 : Aside0 (Wr B wb bb (bs ++ encAt ((([]) ++ rep i (fun i => (at_ .t [o + i * 6]) ++ (at_ .n [o + i * 6 + 1, o + i * 6 + 2, o + i * 6 + 3, o + i * 6 + 4, o + i * 6 + 5]))) ++ (at_ .t [o + i * 6])) vs) x2 ∧ Wk B bb w x2) := ⟨by rw [encAt_append, ← List.append_assoc]; exact p1, HI.out.2.trans p2⟩; clear p1 p2)))
        | fail
      have E3 : Aside0 (sc_lines o = (((([]) ++ rep i (fun i => (at_ .t [o + i * 6]) ++ (at_ .n [o + i * 6 + 1, o + i * 6 + 2, o + i * 6 + 3, o + i * 6 + 4, o + i * 6 + 5]))) ++ (at_ .t [o + i * 6])) ++ (at_ .n [o + i * 6 + 1, o + i * 6 + 2, o + i * 6 + 3, o + i * 6 + 4, o + i * 6 + 5])) ++ ((rest ++ (([] : Sc))))) := ⟨by rw [E2.out]; first | rfl | simp [sc_lines, List.append_assoc]⟩
      have l3 : (bs ++ encAt ((([]) ++ rep i (fun i => (at_ .t [o + i * 6]) ++ (at_ .n [o + i * 6 + 1, o + i * 6 + 2, o + i * 6 + 3, o + i * 6 + 4, o + i * 6 + 5]))) ++ (at_ .t [o + i * 6])) vs).length + (encAt (at_ .n [o + i * 6 + 1, o + i * 6 + 2, o + i * 6 + 3, o + i * 6 + 4, o + i * 6 + 5]) vs).length ≤ 140737488355328 := by
        have z := HL.out
        rw [E3.out, encAt_append, encAt_append] at z
        simp only [List.length_append] at z ⊢
        omega
      have k3 : OkAt (at_ .n [o + i * 6 + 1, o + i * 6 + 2, o + i * 6 + 3, o + i * 6 + 4, o + i * 6 + 5]) vs := by
        have z := HK.out
        rw [E3.out] at z
        exact z.left.right
      have L3 := Aside0.mk (And.intro l3 k3)
      clear l3 k3
      go_wp2_with (fail)
      first
        | (refine (nums_wc (alloc_below _ _) [o + i * 6 + 1, o + i * 6 + 2, o + i * 6 + 3, o + i * 6 + 4, o + i * 6 + 5] (cs_alloc _ _ _ _ rfl) H2.out.1 (H2.out.2.cs HX.out HT.out.1 hxb) HT.out.1 HT.out.2 rfl L3.out.2 L3.out.1 (by first | decide | simp)).mono ?_; rintro e x3 ⟨rfl, p1, p2⟩; have H3 : Aside0 (Wr B wb bb (bs ++ encAt (((([]) ++ rep i (fun i => (at_ .t [o + i * 6]) ++ (at_ .n [o + i * 6 + 1, o + i * 6 + 2, o + i * 6 + 3, o + i * 6 + 4, o + i * 6 + 5]))) ++ (at_ .t [o + i * 6])) ++ (at_ .n [o + i * 6 + 1, o + i * 6 + 2, o + i * 6 + 3, o + i * 6 + 4, o + i * 6 + 5])) vs) x3 ∧ Wk B bb w x3) := ⟨by rw [encAt_append, ← List.append_assoc]; exact p1, H2.out.2.trans p2⟩; clear p1 p2)
        | (go_region_held3 (fun _ => True) (trivial) ((go_at_call 59; refine (nums_wc (alloc_drew _ _) [o + i * 6 + 1, o + i * 6 + 2, o + i * 6 + 3, o + i * 6 + 4, o + i * 6 + 5] (cs_drew _ _ _ _ rfl) H2.out.1 (H2.out.2.cs HX.out HT.out.1 hxb) HT.out.1 HT.out.2 rfl L3.out.2 L3.out.1 (by first | decide | simp)).mono ?_; rintro e x3 ⟨rfl, p1, p2⟩; have H3 : Aside0 (Wr B wb bb (bs ++ encAt (((([]) ++ rep i (fun i => (at_ .t [o + i * 6]) ++ (at_ .n [o + i * 6 + 1, o + i * 6 + 2, o + i * 6 + 3, o + i * 6 + 4, o + i * 6 + 5]))) ++ (at_ .t [o + i * 6])) ++ (at_ .n [o + i * 6 + 1, o + i * 6 + 2, o + i * 6 + 3, o + i * 6 + 4, o + i * 6 + 5])) vs) x3 ∧ Wk B bb w x3) := ⟨by rw [encAt_append, ← List.append_assoc]; exact p1, H2.out.2.trans p2⟩; clear p1 p2)))
        | fail
      go_wp2
      go_roundw
      case rel => exact ⟨i + 1, by omega, by go_num, ⟨by rw [rep_succ]; simpa [List.append_assoc] using H3.out⟩⟩
      case measure => simp [intOf]; omega
    · obtain rfl : i = 8 := by omega
      have EE1 : Aside0 (sc_lines o = (([]) ++ rep 8 (fun i => (at_ .t [o + i * 6]) ++ (at_ .n [o + i * 6 + 1, o + i * 6 + 2, o + i * 6 + 3, o + i * 6 + 4, o + i * 6 + 5]))) ++ (([] : Sc))) := ⟨by rw [EQ1.out]; simp [List.append_assoc]⟩
      go_wp2
      go_end0
      have ef : sc_lines o = ([]) ++ rep 8 (fun i => (at_ .t [o + i * 6]) ++ (at_ .n [o + i * 6 + 1, o + i * 6 + 2, o + i * 6 + 3, o + i * 6 + 4, o + i * 6 + 5])) := by first | rfl | simp [sc_lines, List.append_assoc]
      exact ⟨rfl, by rw [ef]; exact HI.out.1, HI.out.2⟩
set_option maxHeartbeats 8000000 in
set_option maxRecDepth 100000 in
theorem lines_r : ReadsAt 71 sc_lines := by
  intro wb xb o s T vs w h hx hxw hj hl
  have H0 : Aside0 (Rw wb (rdAt ([]) (s, vs)).1 w ∧ Cs xb T (rdAt ([]) (s, vs)).2 w ∧ Fr (fun i => i = wb ∨ i = xb) w w) := ⟨h, hx, Fr.refl _ _⟩
  have HXW := Aside0.mk hxw
  have HJ := Aside0.mk hj
  have HL := Aside0.mk hl
  clear h hx hxw hj hl
  have ES0 : Aside0 (sc_lines o = ([] : Sc) ++ (sc_lines o)) := ⟨rfl⟩
  go_enter Tryz.func71, Tryz.ntmps71
  have EQ1 : Aside0 (sc_lines o = ([]) ++ ((rep 8 (fun i => (at_ .t [o + i * 6]) ++ (at_ .n [o + i * 6 + 1, o + i * 6 + 2, o + i * 6 + 3, o + i * 6 + 4, o + i * 6 + 5]))) ++ (([] : Sc)))) := ⟨by rw [ES0.out]; first | rfl | simp [sc_lines, List.append_assoc]⟩
  go_wp2_with (fail)
  go_loopw [5] (fun v_ wr => ∃ i : Nat, i ≤ 8 ∧ v_ = .int .i64 i ∧ Aside0 (Rw wb (rdAt (([]) ++ rep i (fun i => (at_ .t [o + i * 6]) ++ (at_ .n [o + i * 6 + 1, o + i * 6 + 2, o + i * 6 + 3, o + i * 6 + 4, o + i * 6 + 5]))) (s, vs)).1 wr ∧ Cs xb T (rdAt (([]) ++ rep i (fun i => (at_ .t [o + i * 6]) ++ (at_ .n [o + i * 6 + 1, o + i * 6 + 2, o + i * 6 + 3, o + i * 6 + 4, o + i * 6 + 5]))) (s, vs)).2 wr ∧ Fr (fun i => i = wb ∨ i = xb) w wr)) (fun v_ _ => 8 - (intOf v_).toNat)
  case atStart => exact ⟨0, by omega, rfl, ⟨by simpa [rep] using H0.out⟩⟩
  case round =>
    obtain ⟨i, hi, rfl, HI⟩ := hrel
    clear H0
    by_cases hlt : i < 8
    · obtain ⟨rest, hr⟩ := rep_split 8 (fun i => (at_ .t [o + i * 6]) ++ (at_ .n [o + i * 6 + 1, o + i * 6 + 2, o + i * 6 + 3, o + i * 6 + 4, o + i * 6 + 5])) i hlt
      have ES1 : Aside0 (sc_lines o = (([]) ++ rep i (fun i => (at_ .t [o + i * 6]) ++ (at_ .n [o + i * 6 + 1, o + i * 6 + 2, o + i * 6 + 3, o + i * 6 + 4, o + i * 6 + 5]))) ++ ((at_ .t [o + i * 6]) ++ (at_ .n [o + i * 6 + 1, o + i * 6 + 2, o + i * 6 + 3, o + i * 6 + 4, o + i * 6 + 5]) ++ (rest ++ (([] : Sc))))) := ⟨by rw [EQ1.out, hr]; simp [List.append_assoc]⟩
      clear hr
      have E2 : Aside0 (sc_lines o = ((([]) ++ rep i (fun i => (at_ .t [o + i * 6]) ++ (at_ .n [o + i * 6 + 1, o + i * 6 + 2, o + i * 6 + 3, o + i * 6 + 4, o + i * 6 + 5]))) ++ (at_ .t [o + i * 6])) ++ ((at_ .n [o + i * 6 + 1, o + i * 6 + 2, o + i * 6 + 3, o + i * 6 + 4, o + i * 6 + 5]) ++ (rest ++ (([] : Sc))))) := ⟨by rw [ES1.out]; first | rfl | simp [sc_lines, List.append_assoc]⟩
      have k2 : ∀ x ∈ (at_ .t [o + i * 6] : Sc), x.2 < (rdAt (([]) ++ rep i (fun i => (at_ .t [o + i * 6]) ++ (at_ .n [o + i * 6 + 1, o + i * 6 + 2, o + i * 6 + 3, o + i * 6 + 4, o + i * 6 + 5]))) (s, vs)).2.length := fun x hx => by
        rw [(rdAt_len _ _).2]
        refine HJ.out x ?_
        rw [E2.out]
        exact List.mem_append_left _ (List.mem_append_right _ hx)
      have j2 : ∀ j ∈ ([o + i * 6] : List Nat), j < (rdAt (([]) ++ rep i (fun i => (at_ .t [o + i * 6]) ++ (at_ .n [o + i * 6 + 1, o + i * 6 + 2, o + i * 6 + 3, o + i * 6 + 4, o + i * 6 + 5]))) (s, vs)).2.length := fun j hj => k2 (.t, j) (List.mem_map.2 ⟨j, hj, rfl⟩)
      have L2 := Aside0.mk (And.intro j2 (Nat.le_trans (rdAt_len (([]) ++ rep i (fun i => (at_ .t [o + i * 6]) ++ (at_ .n [o + i * 6 + 1, o + i * 6 + 2, o + i * 6 + 3, o + i * 6 + 4, o + i * 6 + 5]))) (s, vs)).1 HL.out))
      clear k2 j2
      go_wp2_with (fail)
      first
        | (refine (texts_rc (alloc_below _ _) [o + i * 6] (cs_alloc _ _ _ _ rfl) HI.out.1 HI.out.2.1 HXW.out rfl L2.out.1 L2.out.2 (by first | decide | simp)).mono ?_; rintro e x2 ⟨rfl, p1, p2, p3⟩; have H2 : Aside0 (Rw wb (rdAt ((([]) ++ rep i (fun i => (at_ .t [o + i * 6]) ++ (at_ .n [o + i * 6 + 1, o + i * 6 + 2, o + i * 6 + 3, o + i * 6 + 4, o + i * 6 + 5]))) ++ (at_ .t [o + i * 6])) (s, vs)).1 x2 ∧ Cs xb T (rdAt ((([]) ++ rep i (fun i => (at_ .t [o + i * 6]) ++ (at_ .n [o + i * 6 + 1, o + i * 6 + 2, o + i * 6 + 3, o + i * 6 + 4, o + i * 6 + 5]))) ++ (at_ .t [o + i * 6])) (s, vs)).2 x2 ∧ Fr (fun i => i = wb ∨ i = xb) w x2) := ⟨by rw [rdAt_append]; exact p1, by rw [rdAt_append]; exact p2, HI.out.2.2.trans p3 fun i hi => .inl hi⟩; clear p1 p2 p3)
        | (go_region_held3 (fun _ => True) (trivial) ((go_at_call 58; refine (texts_rc (alloc_drew _ _) [o + i * 6] (cs_drew _ _ _ _ rfl) HI.out.1 HI.out.2.1 HXW.out rfl L2.out.1 L2.out.2 (by first | decide | simp)).mono ?_; rintro e x2 ⟨rfl, p1, p2, p3⟩; have H2 : Aside0 (Rw wb (rdAt ((([]) ++ rep i (fun i => (at_ .t [o + i * 6]) ++ (at_ .n [o + i * 6 + 1, o + i * 6 + 2, o + i * 6 + 3, o + i * 6 + 4, o + i * 6 + 5]))) ++ (at_ .t [o + i * 6])) (s, vs)).1 x2 ∧ Cs xb T (rdAt ((([]) ++ rep i (fun i => (at_ .t [o + i * 6]) ++ (at_ .n [o + i * 6 + 1, o + i * 6 + 2, o + i * 6 + 3, o + i * 6 + 4, o + i * 6 + 5]))) ++ (at_ .t [o + i * 6])) (s, vs)).2 x2 ∧ Fr (fun i => i = wb ∨ i = xb) w x2) := ⟨by rw [rdAt_append]; exact p1, by rw [rdAt_append]; exact p2, HI.out.2.2.trans p3 fun i hi => .inl hi⟩; clear p1 p2 p3)))
        | fail
      have E3 : Aside0 (sc_lines o = (((([]) ++ rep i (fun i => (at_ .t [o + i * 6]) ++ (at_ .n [o + i * 6 + 1, o + i * 6 + 2, o + i * 6 + 3, o + i * 6 + 4, o + i * 6 + 5]))) ++ (at_ .t [o + i * 6])) ++ (at_ .n [o + i * 6 + 1, o + i * 6 + 2, o + i * 6 + 3, o + i * 6 + 4, o + i * 6 + 5])) ++ ((rest ++ (([] : Sc))))) := ⟨by rw [E2.out]; first | rfl | simp [sc_lines, List.append_assoc]⟩
      have k3 : ∀ x ∈ (at_ .n [o + i * 6 + 1, o + i * 6 + 2, o + i * 6 + 3, o + i * 6 + 4, o + i * 6 + 5] : Sc), x.2 < (rdAt ((([]) ++ rep i (fun i => (at_ .t [o + i * 6]) ++ (at_ .n [o + i * 6 + 1, o + i * 6 + 2, o + i * 6 + 3, o + i * 6 + 4, o + i * 6 + 5]))) ++ (at_ .t [o + i * 6])) (s, vs)).2.length := fun x hx => by
        rw [(rdAt_len _ _).2]
        refine HJ.out x ?_
        rw [E3.out]
        exact List.mem_append_left _ (List.mem_append_right _ hx)
      have j3 : ∀ j ∈ ([o + i * 6 + 1, o + i * 6 + 2, o + i * 6 + 3, o + i * 6 + 4, o + i * 6 + 5] : List Nat), j < (rdAt ((([]) ++ rep i (fun i => (at_ .t [o + i * 6]) ++ (at_ .n [o + i * 6 + 1, o + i * 6 + 2, o + i * 6 + 3, o + i * 6 + 4, o + i * 6 + 5]))) ++ (at_ .t [o + i * 6])) (s, vs)).2.length := fun j hj => k3 (.n, j) (List.mem_map.2 ⟨j, hj, rfl⟩)
      have L3 := Aside0.mk (And.intro j3 (Nat.le_trans (rdAt_len ((([]) ++ rep i (fun i => (at_ .t [o + i * 6]) ++ (at_ .n [o + i * 6 + 1, o + i * 6 + 2, o + i * 6 + 3, o + i * 6 + 4, o + i * 6 + 5]))) ++ (at_ .t [o + i * 6])) (s, vs)).1 HL.out))
      clear k3 j3
      go_wp2_with (fail)
      first
        | (refine (nums_rc (alloc_below _ _) [o + i * 6 + 1, o + i * 6 + 2, o + i * 6 + 3, o + i * 6 + 4, o + i * 6 + 5] (cs_alloc _ _ _ _ rfl) H2.out.1 H2.out.2.1 HXW.out rfl L3.out.1 L3.out.2 (by first | decide | simp)).mono ?_; rintro e x3 ⟨rfl, p1, p2, p3⟩; have H3 : Aside0 (Rw wb (rdAt (((([]) ++ rep i (fun i => (at_ .t [o + i * 6]) ++ (at_ .n [o + i * 6 + 1, o + i * 6 + 2, o + i * 6 + 3, o + i * 6 + 4, o + i * 6 + 5]))) ++ (at_ .t [o + i * 6])) ++ (at_ .n [o + i * 6 + 1, o + i * 6 + 2, o + i * 6 + 3, o + i * 6 + 4, o + i * 6 + 5])) (s, vs)).1 x3 ∧ Cs xb T (rdAt (((([]) ++ rep i (fun i => (at_ .t [o + i * 6]) ++ (at_ .n [o + i * 6 + 1, o + i * 6 + 2, o + i * 6 + 3, o + i * 6 + 4, o + i * 6 + 5]))) ++ (at_ .t [o + i * 6])) ++ (at_ .n [o + i * 6 + 1, o + i * 6 + 2, o + i * 6 + 3, o + i * 6 + 4, o + i * 6 + 5])) (s, vs)).2 x3 ∧ Fr (fun i => i = wb ∨ i = xb) w x3) := ⟨by rw [rdAt_append]; exact p1, by rw [rdAt_append]; exact p2, H2.out.2.2.trans p3 fun i hi => .inl hi⟩; clear p1 p2 p3)
        | (go_region_held3 (fun _ => True) (trivial) ((go_at_call 59; refine (nums_rc (alloc_drew _ _) [o + i * 6 + 1, o + i * 6 + 2, o + i * 6 + 3, o + i * 6 + 4, o + i * 6 + 5] (cs_drew _ _ _ _ rfl) H2.out.1 H2.out.2.1 HXW.out rfl L3.out.1 L3.out.2 (by first | decide | simp)).mono ?_; rintro e x3 ⟨rfl, p1, p2, p3⟩; have H3 : Aside0 (Rw wb (rdAt (((([]) ++ rep i (fun i => (at_ .t [o + i * 6]) ++ (at_ .n [o + i * 6 + 1, o + i * 6 + 2, o + i * 6 + 3, o + i * 6 + 4, o + i * 6 + 5]))) ++ (at_ .t [o + i * 6])) ++ (at_ .n [o + i * 6 + 1, o + i * 6 + 2, o + i * 6 + 3, o + i * 6 + 4, o + i * 6 + 5])) (s, vs)).1 x3 ∧ Cs xb T (rdAt (((([]) ++ rep i (fun i => (at_ .t [o + i * 6]) ++ (at_ .n [o + i * 6 + 1, o + i * 6 + 2, o + i * 6 + 3, o + i * 6 + 4, o + i * 6 + 5]))) ++ (at_ .t [o + i * 6])) ++ (at_ .n [o + i * 6 + 1, o + i * 6 + 2, o + i * 6 + 3, o + i * 6 + 4, o + i * 6 + 5])) (s, vs)).2 x3 ∧ Fr (fun i => i = wb ∨ i = xb) w x3) := ⟨by rw [rdAt_append]; exact p1, by rw [rdAt_append]; exact p2, H2.out.2.2.trans p3 fun i hi => .inl hi⟩; clear p1 p2 p3)))
        | fail
      go_wp2
      go_roundw
      case rel => exact ⟨i + 1, by omega, by go_num, ⟨by rw [rep_succ]; simpa [List.append_assoc] using H3.out⟩⟩
      case measure => simp [intOf]; omega
    · obtain rfl : i = 8 := by omega
      have EE1 : Aside0 (sc_lines o = (([]) ++ rep 8 (fun i => (at_ .t [o + i * 6]) ++ (at_ .n [o + i * 6 + 1, o + i * 6 + 2, o + i * 6 + 3, o + i * 6 + 4, o + i * 6 + 5]))) ++ (([] : Sc))) := ⟨by rw [EQ1.out]; simp [List.append_assoc]⟩
      go_wp2
      go_end0
      have ef : sc_lines o = ([]) ++ rep 8 (fun i => (at_ .t [o + i * 6]) ++ (at_ .n [o + i * 6 + 1, o + i * 6 + 2, o + i * 6 + 3, o + i * 6 + 4, o + i * 6 + 5])) := by first | rfl | simp [sc_lines, List.append_assoc]
      rw [ef]
      exact ⟨rfl, HI.out⟩
def sc_item : Sc := (at_ .t [0]) ++ (rep 4 (fun i => (at_ .t [1 + i * 2]) ++ (at_ .n [1 + i * 2 + 1]))) ++ (at_ .n [9, 10]) ++ (at_ .b [11, 12, 13])
set_option maxHeartbeats 8000000 in
set_option maxRecDepth 100000 in
theorem item_w {B wb bb xb : Nat} {bs : List UInt8} {T : TypeId} {vs : List Value} {w : World} (h : Wr B wb bb bs w) (hx : Cs xb T vs w) (hT : T ≠ 5) (hT2 : T ≠ 108) (hk : OkAt sc_item vs) (hl : bs.length + (encAt sc_item vs).length ≤ 140737488355328) :
    Calls Tryz.prog 55 #[.pointer (some ⟨wb, 0, none⟩), .pointer (some ⟨xb, 0, none⟩)] w (Writ B wb bb (bs ++ encAt sc_item vs) w) := by
  have H0 : Aside0 (Wr B wb bb (bs ++ encAt ([]) vs) w ∧ Wk B bb w w) := ⟨by simpa [encAt] using h, Wk.refl _ _ _⟩
  have hxb : xb ≠ bb := h.bbT hx hT2
  have HX := Aside0.mk hx
  have HT := Aside0.mk (And.intro hT hT2)
  have HK := Aside0.mk hk
  have HL := Aside0.mk hl
  clear h hx hT hT2 hk hl
  have ES0 : Aside0 (sc_item = ([] : Sc) ++ (sc_item)) := ⟨rfl⟩
  go_enter Tryz.func55, Tryz.ntmps55
  have E1 : Aside0 (sc_item = (([]) ++ (at_ .t [0])) ++ ((rep 4 (fun i => (at_ .t [1 + i * 2]) ++ (at_ .n [1 + i * 2 + 1]))) ++ (at_ .n [9, 10]) ++ (at_ .b [11, 12, 13]))) := ⟨by rw [ES0.out]; first | rfl | simp [sc_item, List.append_assoc]⟩
  have l1 : (bs ++ encAt ([]) vs).length + (encAt (at_ .t [0]) vs).length ≤ 140737488355328 := by
    have z := HL.out
    rw [E1.out, encAt_append, encAt_append] at z
    simp only [List.length_append] at z ⊢
    omega
  have k1 : OkAt (at_ .t [0]) vs := by
    have z := HK.out
    rw [E1.out] at z
    exact z.left.right
  have L1 := Aside0.mk (And.intro l1 k1)
  clear l1 k1
  go_wp2_with (fail)
  first
    | (refine (texts_wc (alloc_below _ _) [0] (cs_alloc _ _ _ _ rfl) H0.out.1 (H0.out.2.cs HX.out HT.out.1 hxb) HT.out.1 HT.out.2 rfl L1.out.2 L1.out.1 (by first | decide | simp)).mono ?_; rintro e x1 ⟨rfl, p1, p2⟩; have H1 : Aside0 (Wr B wb bb (bs ++ encAt (([]) ++ (at_ .t [0])) vs) x1 ∧ Wk B bb w x1) := ⟨by rw [encAt_append, ← List.append_assoc]; exact p1, H0.out.2.trans p2⟩; clear p1 p2)
    | (go_region_held3 (fun _ => True) (trivial) ((go_at_call 58; refine (texts_wc (alloc_drew _ _) [0] (cs_drew _ _ _ _ rfl) H0.out.1 (H0.out.2.cs HX.out HT.out.1 hxb) HT.out.1 HT.out.2 rfl L1.out.2 L1.out.1 (by first | decide | simp)).mono ?_; rintro e x1 ⟨rfl, p1, p2⟩; have H1 : Aside0 (Wr B wb bb (bs ++ encAt (([]) ++ (at_ .t [0])) vs) x1 ∧ Wk B bb w x1) := ⟨by rw [encAt_append, ← List.append_assoc]; exact p1, H0.out.2.trans p2⟩; clear p1 p2)))
    | fail
  have EQ2 : Aside0 (sc_item = (([]) ++ (at_ .t [0])) ++ ((rep 4 (fun i => (at_ .t [1 + i * 2]) ++ (at_ .n [1 + i * 2 + 1]))) ++ ((at_ .n [9, 10]) ++ (at_ .b [11, 12, 13])))) := ⟨by rw [E1.out]; first | rfl | simp [sc_item, List.append_assoc]⟩
  go_wp2_with (fail)
  go_loopw [11] (fun v_ wr => ∃ i : Nat, i ≤ 4 ∧ v_ = .int .i64 i ∧ Aside0 (Wr B wb bb (bs ++ encAt ((([]) ++ (at_ .t [0])) ++ rep i (fun i => (at_ .t [1 + i * 2]) ++ (at_ .n [1 + i * 2 + 1]))) vs) wr ∧ Wk B bb w wr)) (fun v_ _ => 4 - (intOf v_).toNat)
  case atStart => exact ⟨0, by omega, rfl, ⟨by simpa [rep] using H1.out⟩⟩
  case round =>
    obtain ⟨i, hi, rfl, HI⟩ := hrel
    clear H1
    by_cases hlt : i < 4
    · obtain ⟨rest, hr⟩ := rep_split 4 (fun i => (at_ .t [1 + i * 2]) ++ (at_ .n [1 + i * 2 + 1])) i hlt
      have ES2 : Aside0 (sc_item = ((([]) ++ (at_ .t [0])) ++ rep i (fun i => (at_ .t [1 + i * 2]) ++ (at_ .n [1 + i * 2 + 1]))) ++ ((at_ .t [1 + i * 2]) ++ (at_ .n [1 + i * 2 + 1]) ++ (rest ++ ((at_ .n [9, 10]) ++ (at_ .b [11, 12, 13]))))) := ⟨by rw [EQ2.out, hr]; simp [List.append_assoc]⟩
      clear hr
      have E3 : Aside0 (sc_item = (((([]) ++ (at_ .t [0])) ++ rep i (fun i => (at_ .t [1 + i * 2]) ++ (at_ .n [1 + i * 2 + 1]))) ++ (at_ .t [1 + i * 2])) ++ ((at_ .n [1 + i * 2 + 1]) ++ (rest ++ ((at_ .n [9, 10]) ++ (at_ .b [11, 12, 13]))))) := ⟨by rw [ES2.out]; first | rfl | simp [sc_item, List.append_assoc]⟩
      have l3 : (bs ++ encAt ((([]) ++ (at_ .t [0])) ++ rep i (fun i => (at_ .t [1 + i * 2]) ++ (at_ .n [1 + i * 2 + 1]))) vs).length + (encAt (at_ .t [1 + i * 2]) vs).length ≤ 140737488355328 := by
        have z := HL.out
        rw [E3.out, encAt_append, encAt_append] at z
        simp only [List.length_append] at z ⊢
        omega
      have k3 : OkAt (at_ .t [1 + i * 2]) vs := by
        have z := HK.out
        rw [E3.out] at z
        exact z.left.right
      have L3 := Aside0.mk (And.intro l3 k3)
      clear l3 k3
      go_wp2_with (fail)
      first
        | (refine (texts_wc (alloc_below _ _) [1 + i * 2] (cs_alloc _ _ _ _ rfl) HI.out.1 (HI.out.2.cs HX.out HT.out.1 hxb) HT.out.1 HT.out.2 rfl L3.out.2 L3.out.1 (by first | decide | simp)).mono ?_; rintro e x3 ⟨rfl, p1, p2⟩; have H3 : Aside0 (Wr B wb bb (bs ++ encAt (((([]) ++ (at_ .t [0])) ++ rep i (fun i => (at_ .t [1 + i * 2]) ++ (at_ .n [1 + i * 2 + 1]))) ++ (at_ .t [1 + i * 2])) vs) x3 ∧ Wk B bb w x3) := ⟨by rw [encAt_append, ← List.append_assoc]; exact p1, HI.out.2.trans p2⟩; clear p1 p2)
        | (go_region_held3 (fun _ => True) (trivial) ((go_at_call 58; refine (texts_wc (alloc_drew _ _) [1 + i * 2] (cs_drew _ _ _ _ rfl) HI.out.1 (HI.out.2.cs HX.out HT.out.1 hxb) HT.out.1 HT.out.2 rfl L3.out.2 L3.out.1 (by first | decide | simp)).mono ?_; rintro e x3 ⟨rfl, p1, p2⟩; have H3 : Aside0 (Wr B wb bb (bs ++ encAt (((([]) ++ (at_ .t [0])) ++ rep i (fun i => (at_ .t [1 + i * 2]) ++ (at_ .n [1 + i * 2 + 1]))) ++ (at_ .t [1 + i * 2])) vs) x3 ∧ Wk B bb w x3) := ⟨by rw [encAt_append, ← List.append_assoc]; exact p1, HI.out.2.trans p2⟩; clear p1 p2)))
        | fail
      have E4 : Aside0 (sc_item = ((((([]) ++ (at_ .t [0])) ++ rep i (fun i => (at_ .t [1 + i * 2]) ++ (at_ .n [1 + i * 2 + 1]))) ++ (at_ .t [1 + i * 2])) ++ (at_ .n [1 + i * 2 + 1])) ++ ((rest ++ ((at_ .n [9, 10]) ++ (at_ .b [11, 12, 13]))))) := ⟨by rw [E3.out]; first | rfl | simp [sc_item, List.append_assoc]⟩
      have l4 : (bs ++ encAt (((([]) ++ (at_ .t [0])) ++ rep i (fun i => (at_ .t [1 + i * 2]) ++ (at_ .n [1 + i * 2 + 1]))) ++ (at_ .t [1 + i * 2])) vs).length + (encAt (at_ .n [1 + i * 2 + 1]) vs).length ≤ 140737488355328 := by
        have z := HL.out
        rw [E4.out, encAt_append, encAt_append] at z
        simp only [List.length_append] at z ⊢
        omega
      have k4 : OkAt (at_ .n [1 + i * 2 + 1]) vs := by
        have z := HK.out
        rw [E4.out] at z
        exact z.left.right
      have L4 := Aside0.mk (And.intro l4 k4)
      clear l4 k4
      go_wp2_with (fail)
      first
        | (refine (nums_wc (alloc_below _ _) [1 + i * 2 + 1] (cs_alloc _ _ _ _ rfl) H3.out.1 (H3.out.2.cs HX.out HT.out.1 hxb) HT.out.1 HT.out.2 rfl L4.out.2 L4.out.1 (by first | decide | simp)).mono ?_; rintro e x4 ⟨rfl, p1, p2⟩; have H4 : Aside0 (Wr B wb bb (bs ++ encAt ((((([]) ++ (at_ .t [0])) ++ rep i (fun i => (at_ .t [1 + i * 2]) ++ (at_ .n [1 + i * 2 + 1]))) ++ (at_ .t [1 + i * 2])) ++ (at_ .n [1 + i * 2 + 1])) vs) x4 ∧ Wk B bb w x4) := ⟨by rw [encAt_append, ← List.append_assoc]; exact p1, H3.out.2.trans p2⟩; clear p1 p2)
        | (go_region_held3 (fun _ => True) (trivial) ((go_at_call 59; refine (nums_wc (alloc_drew _ _) [1 + i * 2 + 1] (cs_drew _ _ _ _ rfl) H3.out.1 (H3.out.2.cs HX.out HT.out.1 hxb) HT.out.1 HT.out.2 rfl L4.out.2 L4.out.1 (by first | decide | simp)).mono ?_; rintro e x4 ⟨rfl, p1, p2⟩; have H4 : Aside0 (Wr B wb bb (bs ++ encAt ((((([]) ++ (at_ .t [0])) ++ rep i (fun i => (at_ .t [1 + i * 2]) ++ (at_ .n [1 + i * 2 + 1]))) ++ (at_ .t [1 + i * 2])) ++ (at_ .n [1 + i * 2 + 1])) vs) x4 ∧ Wk B bb w x4) := ⟨by rw [encAt_append, ← List.append_assoc]; exact p1, H3.out.2.trans p2⟩; clear p1 p2)))
        | fail
      go_wp2
      go_roundw
      case rel => exact ⟨i + 1, by omega, by go_num, ⟨by rw [rep_succ]; simpa [List.append_assoc] using H4.out⟩⟩
      case measure => simp [intOf]; omega
    · obtain rfl : i = 4 := by omega
      have EE2 : Aside0 (sc_item = ((([]) ++ (at_ .t [0])) ++ rep 4 (fun i => (at_ .t [1 + i * 2]) ++ (at_ .n [1 + i * 2 + 1]))) ++ ((at_ .n [9, 10]) ++ (at_ .b [11, 12, 13]))) := ⟨by rw [EQ2.out]; simp [List.append_assoc]⟩
      have E5 : Aside0 (sc_item = (((([]) ++ (at_ .t [0])) ++ rep 4 (fun i => (at_ .t [1 + i * 2]) ++ (at_ .n [1 + i * 2 + 1]))) ++ (at_ .n [9, 10])) ++ ((at_ .b [11, 12, 13]))) := ⟨by rw [EE2.out]; first | rfl | simp [sc_item, List.append_assoc]⟩
      have l5 : (bs ++ encAt ((([]) ++ (at_ .t [0])) ++ rep 4 (fun i => (at_ .t [1 + i * 2]) ++ (at_ .n [1 + i * 2 + 1]))) vs).length + (encAt (at_ .n [9, 10]) vs).length ≤ 140737488355328 := by
        have z := HL.out
        rw [E5.out, encAt_append, encAt_append] at z
        simp only [List.length_append] at z ⊢
        omega
      have k5 : OkAt (at_ .n [9, 10]) vs := by
        have z := HK.out
        rw [E5.out] at z
        exact z.left.right
      have L5 := Aside0.mk (And.intro l5 k5)
      clear l5 k5
      go_wp2_with (fail)
      first
        | (refine (nums_wc (alloc_below _ _) [9, 10] (cs_alloc _ _ _ _ rfl) HI.out.1 (HI.out.2.cs HX.out HT.out.1 hxb) HT.out.1 HT.out.2 rfl L5.out.2 L5.out.1 (by first | decide | simp)).mono ?_; rintro e x5 ⟨rfl, p1, p2⟩; have H5 : Aside0 (Wr B wb bb (bs ++ encAt (((([]) ++ (at_ .t [0])) ++ rep 4 (fun i => (at_ .t [1 + i * 2]) ++ (at_ .n [1 + i * 2 + 1]))) ++ (at_ .n [9, 10])) vs) x5 ∧ Wk B bb w x5) := ⟨by rw [encAt_append, ← List.append_assoc]; exact p1, HI.out.2.trans p2⟩; clear p1 p2)
        | (go_region_held3 (fun _ => True) (trivial) ((go_at_call 59; refine (nums_wc (alloc_drew _ _) [9, 10] (cs_drew _ _ _ _ rfl) HI.out.1 (HI.out.2.cs HX.out HT.out.1 hxb) HT.out.1 HT.out.2 rfl L5.out.2 L5.out.1 (by first | decide | simp)).mono ?_; rintro e x5 ⟨rfl, p1, p2⟩; have H5 : Aside0 (Wr B wb bb (bs ++ encAt (((([]) ++ (at_ .t [0])) ++ rep 4 (fun i => (at_ .t [1 + i * 2]) ++ (at_ .n [1 + i * 2 + 1]))) ++ (at_ .n [9, 10])) vs) x5 ∧ Wk B bb w x5) := ⟨by rw [encAt_append, ← List.append_assoc]; exact p1, HI.out.2.trans p2⟩; clear p1 p2)))
        | fail
      have E6 : Aside0 (sc_item = ((((([]) ++ (at_ .t [0])) ++ rep 4 (fun i => (at_ .t [1 + i * 2]) ++ (at_ .n [1 + i * 2 + 1]))) ++ (at_ .n [9, 10])) ++ (at_ .b [11, 12, 13])) ++ (([] : Sc))) := ⟨by rw [E5.out]; first | rfl | simp [sc_item, List.append_assoc]⟩
      have l6 : (bs ++ encAt (((([]) ++ (at_ .t [0])) ++ rep 4 (fun i => (at_ .t [1 + i * 2]) ++ (at_ .n [1 + i * 2 + 1]))) ++ (at_ .n [9, 10])) vs).length + (encAt (at_ .b [11, 12, 13]) vs).length ≤ 140737488355328 := by
        have z := HL.out
        rw [E6.out, encAt_append, encAt_append] at z
        simp only [List.length_append] at z ⊢
        omega
      have k6 : OkAt (at_ .b [11, 12, 13]) vs := by
        have z := HK.out
        rw [E6.out] at z
        exact z.left.right
      have L6 := Aside0.mk (And.intro l6 k6)
      clear l6 k6
      go_wp2_with (fail)
      first
        | (refine (truths_wc (alloc_below _ _) [11, 12, 13] (cs_alloc _ _ _ _ rfl) H5.out.1 (H5.out.2.cs HX.out HT.out.1 hxb) HT.out.1 HT.out.2 rfl L6.out.2 L6.out.1 (by first | decide | simp)).mono ?_; rintro e x6 ⟨rfl, p1, p2⟩; have H6 : Aside0 (Wr B wb bb (bs ++ encAt ((((([]) ++ (at_ .t [0])) ++ rep 4 (fun i => (at_ .t [1 + i * 2]) ++ (at_ .n [1 + i * 2 + 1]))) ++ (at_ .n [9, 10])) ++ (at_ .b [11, 12, 13])) vs) x6 ∧ Wk B bb w x6) := ⟨by rw [encAt_append, ← List.append_assoc]; exact p1, H5.out.2.trans p2⟩; clear p1 p2)
        | (go_region_held3 (fun _ => True) (trivial) ((go_at_call 72; refine (truths_wc (alloc_drew _ _) [11, 12, 13] (cs_drew _ _ _ _ rfl) H5.out.1 (H5.out.2.cs HX.out HT.out.1 hxb) HT.out.1 HT.out.2 rfl L6.out.2 L6.out.1 (by first | decide | simp)).mono ?_; rintro e x6 ⟨rfl, p1, p2⟩; have H6 : Aside0 (Wr B wb bb (bs ++ encAt ((((([]) ++ (at_ .t [0])) ++ rep 4 (fun i => (at_ .t [1 + i * 2]) ++ (at_ .n [1 + i * 2 + 1]))) ++ (at_ .n [9, 10])) ++ (at_ .b [11, 12, 13])) vs) x6 ∧ Wk B bb w x6) := ⟨by rw [encAt_append, ← List.append_assoc]; exact p1, H5.out.2.trans p2⟩; clear p1 p2)))
        | fail
      go_wp2
      go_end0
      have ef : sc_item = (((([]) ++ (at_ .t [0])) ++ rep 4 (fun i => (at_ .t [1 + i * 2]) ++ (at_ .n [1 + i * 2 + 1]))) ++ (at_ .n [9, 10])) ++ (at_ .b [11, 12, 13]) := by first | rfl | simp [sc_item, List.append_assoc]
      exact ⟨rfl, by rw [ef]; exact H6.out.1, H6.out.2⟩
set_option maxHeartbeats 8000000 in
set_option maxRecDepth 100000 in
theorem item_r {wb xb : Nat} {s : Rd} {T : TypeId} {vs : List Value} {w : World} (h : Rw wb s w) (hx : Cs xb T vs w) (hxw : xb ≠ wb) (hj : ∀ x ∈ sc_item, x.2 < vs.length) (hl : s.D.length ≤ 1000000000000) :
    Calls Tryz.prog 55 #[.pointer (some ⟨wb, 0, none⟩), .pointer (some ⟨xb, 0, none⟩)] w (Redd wb xb T (rdAt sc_item (s, vs)) w) := by
  have H0 : Aside0 (Rw wb (rdAt ([]) (s, vs)).1 w ∧ Cs xb T (rdAt ([]) (s, vs)).2 w ∧ Fr (fun i => i = wb ∨ i = xb) w w) := ⟨h, hx, Fr.refl _ _⟩
  have HXW := Aside0.mk hxw
  have HJ := Aside0.mk hj
  have HL := Aside0.mk hl
  clear h hx hxw hj hl
  have ES0 : Aside0 (sc_item = ([] : Sc) ++ (sc_item)) := ⟨rfl⟩
  go_enter Tryz.func55, Tryz.ntmps55
  have E1 : Aside0 (sc_item = (([]) ++ (at_ .t [0])) ++ ((rep 4 (fun i => (at_ .t [1 + i * 2]) ++ (at_ .n [1 + i * 2 + 1]))) ++ (at_ .n [9, 10]) ++ (at_ .b [11, 12, 13]))) := ⟨by rw [ES0.out]; first | rfl | simp [sc_item, List.append_assoc]⟩
  have k1 : ∀ x ∈ (at_ .t [0] : Sc), x.2 < (rdAt ([]) (s, vs)).2.length := fun x hx => by
    rw [(rdAt_len _ _).2]
    refine HJ.out x ?_
    rw [E1.out]
    exact List.mem_append_left _ (List.mem_append_right _ hx)
  have j1 : ∀ j ∈ ([0] : List Nat), j < (rdAt ([]) (s, vs)).2.length := fun j hj => k1 (.t, j) (List.mem_map.2 ⟨j, hj, rfl⟩)
  have L1 := Aside0.mk (And.intro j1 (Nat.le_trans (rdAt_len ([]) (s, vs)).1 HL.out))
  clear k1 j1
  go_wp2_with (fail)
  first
    | (refine (texts_rc (alloc_below _ _) [0] (cs_alloc _ _ _ _ rfl) H0.out.1 H0.out.2.1 HXW.out rfl L1.out.1 L1.out.2 (by first | decide | simp)).mono ?_; rintro e x1 ⟨rfl, p1, p2, p3⟩; have H1 : Aside0 (Rw wb (rdAt (([]) ++ (at_ .t [0])) (s, vs)).1 x1 ∧ Cs xb T (rdAt (([]) ++ (at_ .t [0])) (s, vs)).2 x1 ∧ Fr (fun i => i = wb ∨ i = xb) w x1) := ⟨by rw [rdAt_append]; exact p1, by rw [rdAt_append]; exact p2, H0.out.2.2.trans p3 fun i hi => .inl hi⟩; clear p1 p2 p3)
    | (go_region_held3 (fun _ => True) (trivial) ((go_at_call 58; refine (texts_rc (alloc_drew _ _) [0] (cs_drew _ _ _ _ rfl) H0.out.1 H0.out.2.1 HXW.out rfl L1.out.1 L1.out.2 (by first | decide | simp)).mono ?_; rintro e x1 ⟨rfl, p1, p2, p3⟩; have H1 : Aside0 (Rw wb (rdAt (([]) ++ (at_ .t [0])) (s, vs)).1 x1 ∧ Cs xb T (rdAt (([]) ++ (at_ .t [0])) (s, vs)).2 x1 ∧ Fr (fun i => i = wb ∨ i = xb) w x1) := ⟨by rw [rdAt_append]; exact p1, by rw [rdAt_append]; exact p2, H0.out.2.2.trans p3 fun i hi => .inl hi⟩; clear p1 p2 p3)))
    | fail
  have EQ2 : Aside0 (sc_item = (([]) ++ (at_ .t [0])) ++ ((rep 4 (fun i => (at_ .t [1 + i * 2]) ++ (at_ .n [1 + i * 2 + 1]))) ++ ((at_ .n [9, 10]) ++ (at_ .b [11, 12, 13])))) := ⟨by rw [E1.out]; first | rfl | simp [sc_item, List.append_assoc]⟩
  go_wp2_with (fail)
  go_loopw [11] (fun v_ wr => ∃ i : Nat, i ≤ 4 ∧ v_ = .int .i64 i ∧ Aside0 (Rw wb (rdAt ((([]) ++ (at_ .t [0])) ++ rep i (fun i => (at_ .t [1 + i * 2]) ++ (at_ .n [1 + i * 2 + 1]))) (s, vs)).1 wr ∧ Cs xb T (rdAt ((([]) ++ (at_ .t [0])) ++ rep i (fun i => (at_ .t [1 + i * 2]) ++ (at_ .n [1 + i * 2 + 1]))) (s, vs)).2 wr ∧ Fr (fun i => i = wb ∨ i = xb) w wr)) (fun v_ _ => 4 - (intOf v_).toNat)
  case atStart => exact ⟨0, by omega, rfl, ⟨by simpa [rep] using H1.out⟩⟩
  case round =>
    obtain ⟨i, hi, rfl, HI⟩ := hrel
    clear H1
    by_cases hlt : i < 4
    · obtain ⟨rest, hr⟩ := rep_split 4 (fun i => (at_ .t [1 + i * 2]) ++ (at_ .n [1 + i * 2 + 1])) i hlt
      have ES2 : Aside0 (sc_item = ((([]) ++ (at_ .t [0])) ++ rep i (fun i => (at_ .t [1 + i * 2]) ++ (at_ .n [1 + i * 2 + 1]))) ++ ((at_ .t [1 + i * 2]) ++ (at_ .n [1 + i * 2 + 1]) ++ (rest ++ ((at_ .n [9, 10]) ++ (at_ .b [11, 12, 13]))))) := ⟨by rw [EQ2.out, hr]; simp [List.append_assoc]⟩
      clear hr
      have E3 : Aside0 (sc_item = (((([]) ++ (at_ .t [0])) ++ rep i (fun i => (at_ .t [1 + i * 2]) ++ (at_ .n [1 + i * 2 + 1]))) ++ (at_ .t [1 + i * 2])) ++ ((at_ .n [1 + i * 2 + 1]) ++ (rest ++ ((at_ .n [9, 10]) ++ (at_ .b [11, 12, 13]))))) := ⟨by rw [ES2.out]; first | rfl | simp [sc_item, List.append_assoc]⟩
      have k3 : ∀ x ∈ (at_ .t [1 + i * 2] : Sc), x.2 < (rdAt ((([]) ++ (at_ .t [0])) ++ rep i (fun i => (at_ .t [1 + i * 2]) ++ (at_ .n [1 + i * 2 + 1]))) (s, vs)).2.length := fun x hx => by
        rw [(rdAt_len _ _).2]
        refine HJ.out x ?_
        rw [E3.out]
        exact List.mem_append_left _ (List.mem_append_right _ hx)
      have j3 : ∀ j ∈ ([1 + i * 2] : List Nat), j < (rdAt ((([]) ++ (at_ .t [0])) ++ rep i (fun i => (at_ .t [1 + i * 2]) ++ (at_ .n [1 + i * 2 + 1]))) (s, vs)).2.length := fun j hj => k3 (.t, j) (List.mem_map.2 ⟨j, hj, rfl⟩)
      have L3 := Aside0.mk (And.intro j3 (Nat.le_trans (rdAt_len ((([]) ++ (at_ .t [0])) ++ rep i (fun i => (at_ .t [1 + i * 2]) ++ (at_ .n [1 + i * 2 + 1]))) (s, vs)).1 HL.out))
      clear k3 j3
      go_wp2_with (fail)
      first
        | (refine (texts_rc (alloc_below _ _) [1 + i * 2] (cs_alloc _ _ _ _ rfl) HI.out.1 HI.out.2.1 HXW.out rfl L3.out.1 L3.out.2 (by first | decide | simp)).mono ?_; rintro e x3 ⟨rfl, p1, p2, p3⟩; have H3 : Aside0 (Rw wb (rdAt (((([]) ++ (at_ .t [0])) ++ rep i (fun i => (at_ .t [1 + i * 2]) ++ (at_ .n [1 + i * 2 + 1]))) ++ (at_ .t [1 + i * 2])) (s, vs)).1 x3 ∧ Cs xb T (rdAt (((([]) ++ (at_ .t [0])) ++ rep i (fun i => (at_ .t [1 + i * 2]) ++ (at_ .n [1 + i * 2 + 1]))) ++ (at_ .t [1 + i * 2])) (s, vs)).2 x3 ∧ Fr (fun i => i = wb ∨ i = xb) w x3) := ⟨by rw [rdAt_append]; exact p1, by rw [rdAt_append]; exact p2, HI.out.2.2.trans p3 fun i hi => .inl hi⟩; clear p1 p2 p3)
        | (go_region_held3 (fun _ => True) (trivial) ((go_at_call 58; refine (texts_rc (alloc_drew _ _) [1 + i * 2] (cs_drew _ _ _ _ rfl) HI.out.1 HI.out.2.1 HXW.out rfl L3.out.1 L3.out.2 (by first | decide | simp)).mono ?_; rintro e x3 ⟨rfl, p1, p2, p3⟩; have H3 : Aside0 (Rw wb (rdAt (((([]) ++ (at_ .t [0])) ++ rep i (fun i => (at_ .t [1 + i * 2]) ++ (at_ .n [1 + i * 2 + 1]))) ++ (at_ .t [1 + i * 2])) (s, vs)).1 x3 ∧ Cs xb T (rdAt (((([]) ++ (at_ .t [0])) ++ rep i (fun i => (at_ .t [1 + i * 2]) ++ (at_ .n [1 + i * 2 + 1]))) ++ (at_ .t [1 + i * 2])) (s, vs)).2 x3 ∧ Fr (fun i => i = wb ∨ i = xb) w x3) := ⟨by rw [rdAt_append]; exact p1, by rw [rdAt_append]; exact p2, HI.out.2.2.trans p3 fun i hi => .inl hi⟩; clear p1 p2 p3)))
        | fail
      have E4 : Aside0 (sc_item = ((((([]) ++ (at_ .t [0])) ++ rep i (fun i => (at_ .t [1 + i * 2]) ++ (at_ .n [1 + i * 2 + 1]))) ++ (at_ .t [1 + i * 2])) ++ (at_ .n [1 + i * 2 + 1])) ++ ((rest ++ ((at_ .n [9, 10]) ++ (at_ .b [11, 12, 13]))))) := ⟨by rw [E3.out]; first | rfl | simp [sc_item, List.append_assoc]⟩
      have k4 : ∀ x ∈ (at_ .n [1 + i * 2 + 1] : Sc), x.2 < (rdAt (((([]) ++ (at_ .t [0])) ++ rep i (fun i => (at_ .t [1 + i * 2]) ++ (at_ .n [1 + i * 2 + 1]))) ++ (at_ .t [1 + i * 2])) (s, vs)).2.length := fun x hx => by
        rw [(rdAt_len _ _).2]
        refine HJ.out x ?_
        rw [E4.out]
        exact List.mem_append_left _ (List.mem_append_right _ hx)
      have j4 : ∀ j ∈ ([1 + i * 2 + 1] : List Nat), j < (rdAt (((([]) ++ (at_ .t [0])) ++ rep i (fun i => (at_ .t [1 + i * 2]) ++ (at_ .n [1 + i * 2 + 1]))) ++ (at_ .t [1 + i * 2])) (s, vs)).2.length := fun j hj => k4 (.n, j) (List.mem_map.2 ⟨j, hj, rfl⟩)
      have L4 := Aside0.mk (And.intro j4 (Nat.le_trans (rdAt_len (((([]) ++ (at_ .t [0])) ++ rep i (fun i => (at_ .t [1 + i * 2]) ++ (at_ .n [1 + i * 2 + 1]))) ++ (at_ .t [1 + i * 2])) (s, vs)).1 HL.out))
      clear k4 j4
      go_wp2_with (fail)
      first
        | (refine (nums_rc (alloc_below _ _) [1 + i * 2 + 1] (cs_alloc _ _ _ _ rfl) H3.out.1 H3.out.2.1 HXW.out rfl L4.out.1 L4.out.2 (by first | decide | simp)).mono ?_; rintro e x4 ⟨rfl, p1, p2, p3⟩; have H4 : Aside0 (Rw wb (rdAt ((((([]) ++ (at_ .t [0])) ++ rep i (fun i => (at_ .t [1 + i * 2]) ++ (at_ .n [1 + i * 2 + 1]))) ++ (at_ .t [1 + i * 2])) ++ (at_ .n [1 + i * 2 + 1])) (s, vs)).1 x4 ∧ Cs xb T (rdAt ((((([]) ++ (at_ .t [0])) ++ rep i (fun i => (at_ .t [1 + i * 2]) ++ (at_ .n [1 + i * 2 + 1]))) ++ (at_ .t [1 + i * 2])) ++ (at_ .n [1 + i * 2 + 1])) (s, vs)).2 x4 ∧ Fr (fun i => i = wb ∨ i = xb) w x4) := ⟨by rw [rdAt_append]; exact p1, by rw [rdAt_append]; exact p2, H3.out.2.2.trans p3 fun i hi => .inl hi⟩; clear p1 p2 p3)
        | (go_region_held3 (fun _ => True) (trivial) ((go_at_call 59; refine (nums_rc (alloc_drew _ _) [1 + i * 2 + 1] (cs_drew _ _ _ _ rfl) H3.out.1 H3.out.2.1 HXW.out rfl L4.out.1 L4.out.2 (by first | decide | simp)).mono ?_; rintro e x4 ⟨rfl, p1, p2, p3⟩; have H4 : Aside0 (Rw wb (rdAt ((((([]) ++ (at_ .t [0])) ++ rep i (fun i => (at_ .t [1 + i * 2]) ++ (at_ .n [1 + i * 2 + 1]))) ++ (at_ .t [1 + i * 2])) ++ (at_ .n [1 + i * 2 + 1])) (s, vs)).1 x4 ∧ Cs xb T (rdAt ((((([]) ++ (at_ .t [0])) ++ rep i (fun i => (at_ .t [1 + i * 2]) ++ (at_ .n [1 + i * 2 + 1]))) ++ (at_ .t [1 + i * 2])) ++ (at_ .n [1 + i * 2 + 1])) (s, vs)).2 x4 ∧ Fr (fun i => i = wb ∨ i = xb) w x4) := ⟨by rw [rdAt_append]; exact p1, by rw [rdAt_append]; exact p2, H3.out.2.2.trans p3 fun i hi => .inl hi⟩; clear p1 p2 p3)))
        | fail
      go_wp2
      go_roundw
      case rel => exact ⟨i + 1, by omega, by go_num, ⟨by rw [rep_succ]; simpa [List.append_assoc] using H4.out⟩⟩
      case measure => simp [intOf]; omega
    · obtain rfl : i = 4 := by omega
      have EE2 : Aside0 (sc_item = ((([]) ++ (at_ .t [0])) ++ rep 4 (fun i => (at_ .t [1 + i * 2]) ++ (at_ .n [1 + i * 2 + 1]))) ++ ((at_ .n [9, 10]) ++ (at_ .b [11, 12, 13]))) := ⟨by rw [EQ2.out]; simp [List.append_assoc]⟩
      have E5 : Aside0 (sc_item = (((([]) ++ (at_ .t [0])) ++ rep 4 (fun i => (at_ .t [1 + i * 2]) ++ (at_ .n [1 + i * 2 + 1]))) ++ (at_ .n [9, 10])) ++ ((at_ .b [11, 12, 13]))) := ⟨by rw [EE2.out]; first | rfl | simp [sc_item, List.append_assoc]⟩
      have k5 : ∀ x ∈ (at_ .n [9, 10] : Sc), x.2 < (rdAt ((([]) ++ (at_ .t [0])) ++ rep 4 (fun i => (at_ .t [1 + i * 2]) ++ (at_ .n [1 + i * 2 + 1]))) (s, vs)).2.length := fun x hx => by
        rw [(rdAt_len _ _).2]
        refine HJ.out x ?_
        rw [E5.out]
        exact List.mem_append_left _ (List.mem_append_right _ hx)
      have j5 : ∀ j ∈ ([9, 10] : List Nat), j < (rdAt ((([]) ++ (at_ .t [0])) ++ rep 4 (fun i => (at_ .t [1 + i * 2]) ++ (at_ .n [1 + i * 2 + 1]))) (s, vs)).2.length := fun j hj => k5 (.n, j) (List.mem_map.2 ⟨j, hj, rfl⟩)
      have L5 := Aside0.mk (And.intro j5 (Nat.le_trans (rdAt_len ((([]) ++ (at_ .t [0])) ++ rep 4 (fun i => (at_ .t [1 + i * 2]) ++ (at_ .n [1 + i * 2 + 1]))) (s, vs)).1 HL.out))
      clear k5 j5
      go_wp2_with (fail)
      first
        | (refine (nums_rc (alloc_below _ _) [9, 10] (cs_alloc _ _ _ _ rfl) HI.out.1 HI.out.2.1 HXW.out rfl L5.out.1 L5.out.2 (by first | decide | simp)).mono ?_; rintro e x5 ⟨rfl, p1, p2, p3⟩; have H5 : Aside0 (Rw wb (rdAt (((([]) ++ (at_ .t [0])) ++ rep 4 (fun i => (at_ .t [1 + i * 2]) ++ (at_ .n [1 + i * 2 + 1]))) ++ (at_ .n [9, 10])) (s, vs)).1 x5 ∧ Cs xb T (rdAt (((([]) ++ (at_ .t [0])) ++ rep 4 (fun i => (at_ .t [1 + i * 2]) ++ (at_ .n [1 + i * 2 + 1]))) ++ (at_ .n [9, 10])) (s, vs)).2 x5 ∧ Fr (fun i => i = wb ∨ i = xb) w x5) := ⟨by rw [rdAt_append]; exact p1, by rw [rdAt_append]; exact p2, HI.out.2.2.trans p3 fun i hi => .inl hi⟩; clear p1 p2 p3)
        | (go_region_held3 (fun _ => True) (trivial) ((go_at_call 59; refine (nums_rc (alloc_drew _ _) [9, 10] (cs_drew _ _ _ _ rfl) HI.out.1 HI.out.2.1 HXW.out rfl L5.out.1 L5.out.2 (by first | decide | simp)).mono ?_; rintro e x5 ⟨rfl, p1, p2, p3⟩; have H5 : Aside0 (Rw wb (rdAt (((([]) ++ (at_ .t [0])) ++ rep 4 (fun i => (at_ .t [1 + i * 2]) ++ (at_ .n [1 + i * 2 + 1]))) ++ (at_ .n [9, 10])) (s, vs)).1 x5 ∧ Cs xb T (rdAt (((([]) ++ (at_ .t [0])) ++ rep 4 (fun i => (at_ .t [1 + i * 2]) ++ (at_ .n [1 + i * 2 + 1]))) ++ (at_ .n [9, 10])) (s, vs)).2 x5 ∧ Fr (fun i => i = wb ∨ i = xb) w x5) := ⟨by rw [rdAt_append]; exact p1, by rw [rdAt_append]; exact p2, HI.out.2.2.trans p3 fun i hi => .inl hi⟩; clear p1 p2 p3)))
        | fail
      have E6 : Aside0 (sc_item = ((((([]) ++ (at_ .t [0])) ++ rep 4 (fun i => (at_ .t [1 + i * 2]) ++ (at_ .n [1 + i * 2 + 1]))) ++ (at_ .n [9, 10])) ++ (at_ .b [11, 12, 13])) ++ (([] : Sc))) := ⟨by rw [E5.out]; first | rfl | simp [sc_item, List.append_assoc]⟩
      have k6 : ∀ x ∈ (at_ .b [11, 12, 13] : Sc), x.2 < (rdAt (((([]) ++ (at_ .t [0])) ++ rep 4 (fun i => (at_ .t [1 + i * 2]) ++ (at_ .n [1 + i * 2 + 1]))) ++ (at_ .n [9, 10])) (s, vs)).2.length := fun x hx => by
        rw [(rdAt_len _ _).2]
        refine HJ.out x ?_
        rw [E6.out]
        exact List.mem_append_left _ (List.mem_append_right _ hx)
      have j6 : ∀ j ∈ ([11, 12, 13] : List Nat), j < (rdAt (((([]) ++ (at_ .t [0])) ++ rep 4 (fun i => (at_ .t [1 + i * 2]) ++ (at_ .n [1 + i * 2 + 1]))) ++ (at_ .n [9, 10])) (s, vs)).2.length := fun j hj => k6 (.b, j) (List.mem_map.2 ⟨j, hj, rfl⟩)
      have L6 := Aside0.mk (And.intro j6 (Nat.le_trans (rdAt_len (((([]) ++ (at_ .t [0])) ++ rep 4 (fun i => (at_ .t [1 + i * 2]) ++ (at_ .n [1 + i * 2 + 1]))) ++ (at_ .n [9, 10])) (s, vs)).1 HL.out))
      clear k6 j6
      go_wp2_with (fail)
      first
        | (refine (truths_rc (alloc_below _ _) [11, 12, 13] (cs_alloc _ _ _ _ rfl) H5.out.1 H5.out.2.1 HXW.out rfl L6.out.1 L6.out.2 (by first | decide | simp)).mono ?_; rintro e x6 ⟨rfl, p1, p2, p3⟩; have H6 : Aside0 (Rw wb (rdAt ((((([]) ++ (at_ .t [0])) ++ rep 4 (fun i => (at_ .t [1 + i * 2]) ++ (at_ .n [1 + i * 2 + 1]))) ++ (at_ .n [9, 10])) ++ (at_ .b [11, 12, 13])) (s, vs)).1 x6 ∧ Cs xb T (rdAt ((((([]) ++ (at_ .t [0])) ++ rep 4 (fun i => (at_ .t [1 + i * 2]) ++ (at_ .n [1 + i * 2 + 1]))) ++ (at_ .n [9, 10])) ++ (at_ .b [11, 12, 13])) (s, vs)).2 x6 ∧ Fr (fun i => i = wb ∨ i = xb) w x6) := ⟨by rw [rdAt_append]; exact p1, by rw [rdAt_append]; exact p2, H5.out.2.2.trans p3 fun i hi => .inl hi⟩; clear p1 p2 p3)
        | (go_region_held3 (fun _ => True) (trivial) ((go_at_call 72; refine (truths_rc (alloc_drew _ _) [11, 12, 13] (cs_drew _ _ _ _ rfl) H5.out.1 H5.out.2.1 HXW.out rfl L6.out.1 L6.out.2 (by first | decide | simp)).mono ?_; rintro e x6 ⟨rfl, p1, p2, p3⟩; have H6 : Aside0 (Rw wb (rdAt ((((([]) ++ (at_ .t [0])) ++ rep 4 (fun i => (at_ .t [1 + i * 2]) ++ (at_ .n [1 + i * 2 + 1]))) ++ (at_ .n [9, 10])) ++ (at_ .b [11, 12, 13])) (s, vs)).1 x6 ∧ Cs xb T (rdAt ((((([]) ++ (at_ .t [0])) ++ rep 4 (fun i => (at_ .t [1 + i * 2]) ++ (at_ .n [1 + i * 2 + 1]))) ++ (at_ .n [9, 10])) ++ (at_ .b [11, 12, 13])) (s, vs)).2 x6 ∧ Fr (fun i => i = wb ∨ i = xb) w x6) := ⟨by rw [rdAt_append]; exact p1, by rw [rdAt_append]; exact p2, H5.out.2.2.trans p3 fun i hi => .inl hi⟩; clear p1 p2 p3)))
        | fail
      go_wp2
      go_end0
      have ef : sc_item = (((([]) ++ (at_ .t [0])) ++ rep 4 (fun i => (at_ .t [1 + i * 2]) ++ (at_ .n [1 + i * 2 + 1]))) ++ (at_ .n [9, 10])) ++ (at_ .b [11, 12, 13]) := by first | rfl | simp [sc_item, List.append_assoc]
      rw [ef]
      exact ⟨rfl, H6.out⟩
end Go.Proofs.YtgdoodeibcfcjaaGreat.Wire
