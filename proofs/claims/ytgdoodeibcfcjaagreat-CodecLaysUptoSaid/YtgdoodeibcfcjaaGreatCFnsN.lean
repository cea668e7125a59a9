/- The codec's functions that lay and read a thing's fields, walked in both modes: notice, order. Printed by cgen.py. -/
import Derived.Test.YtgdoodeibcfcjaaGreatCFnsL
set_option linter.unusedVariables false
set_option linter.unusedSimpArgs false
namespace Go.Proofs.YtgdoodeibcfcjaaGreat.Wire
open Go.RowKit Go.Proofs.YtgdoodeibcfcjaaGreat.NumsPure Go.Proofs.YtgdoodeibcfcjaaGreat.CPure Go.Proofs.YtgdoodeibcfcjaaGreat.Own
open Go.Proofs.YtgdoodeibcfcjaaGreat.Put (digits digits_lt digits_ge)
open Go.Proofs.YtgdoodeibcfcjaaGreat.BldS (Keeps)
attribute [local irreducible] sc_lines
def sc_notice : Sc := (at_ .t [0, 1]) ++ (sc_lines (2)) ++ (at_ .b [50])
set_option maxHeartbeats 8000000 in
set_option maxRecDepth 100000 in
theorem notice_w {B wb bb xb : Nat} {bs : List UInt8} {T : TypeId} {vs : List Value} {w : World} (h : Wr B wb bb bs w) (hx : Cs xb T vs w) (hT : T ≠ 5) (hT2 : T ≠ 108) (hk : OkAt sc_notice vs) (hl : bs.length + (encAt sc_notice vs).length ≤ 140737488355328) :
    Calls Tryz.prog 70 #[.pointer (some ⟨wb, 0, none⟩), .pointer (some ⟨xb, 0, none⟩)] w (Writ B wb bb (bs ++ encAt sc_notice vs) w) := by
  have H0 : Aside0 (Wr B wb bb (bs ++ encAt ([]) vs) w ∧ Wk B bb w w) := ⟨by simpa [encAt] using h, Wk.refl _ _ _⟩
  have hxb : xb ≠ bb := h.bbT hx hT2
  have HX := Aside0.mk hx
  have HT := Aside0.mk (And.intro hT hT2)
  have HK := Aside0.mk hk
  have HL := Aside0.mk hl
  clear h hx hT hT2 hk hl
  have ES0 : Aside0 (sc_notice = ([] : Sc) ++ (sc_notice)) := ⟨rfl⟩
  go_enter Tryz.func70, Tryz.ntmps70
  have E1 : Aside0 (sc_notice = (([]) ++ (at_ .t [0, 1])) ++ ((sc_lines (2)) ++ (at_ .b [50]))) := ⟨by rw [ES0.out]; first | rfl | simp [sc_notice, List.append_assoc]⟩
  have l1 : (bs ++ encAt ([]) vs).length + (encAt (at_ .t [0, 1]) vs).length ≤ 140737488355328 := by
    have z := HL.out
    rw [E1.out, encAt_append, encAt_append] at z
    simp only [List.length_append] at z ⊢
    omega
  have k1 : OkAt (at_ .t [0, 1]) vs := by
    have z := HK.out
    rw [E1.out] at z
    exact z.left.right
  have L1 := Aside0.mk (And.intro l1 k1)
  clear l1 k1
  go_wp2_with (fail)
  first
    | (refine (texts_wc (alloc_below _ _) [0, 1] (cs_alloc _ _ _ _ rfl) H0.out.1 (H0.out.2.cs HX.out HT.out.1 hxb) HT.out.1 HT.out.2 rfl L1.out.2 L1.out.1 (by first | decide | simp)).mono ?_; rintro e x1 ⟨rfl, p1, p2⟩; have H1 : Aside0 (Wr B wb bb (bs ++ encAt (([]) ++ (at_ .t [0, 1])) vs) x1 ∧ Wk B bb w x1) := ⟨by rw [encAt_append, ← List.append_assoc]; exact p1, H0.out.2.trans p2⟩; clear p1 p2)
    | (go_region_held3 (fun _ => True) (trivial) ((go_at_call 58; refine (texts_wc (alloc_drew _ _) [0, 1] (cs_drew _ _ _ _ rfl) H0.out.1 (H0.out.2.cs HX.out HT.out.1 hxb) HT.out.1 HT.out.2 rfl L1.out.2 L1.out.1 (by first | decide | simp)).mono ?_; rintro e x1 ⟨rfl, p1, p2⟩; have H1 : Aside0 (Wr B wb bb (bs ++ encAt (([]) ++ (at_ .t [0, 1])) vs) x1 ∧ Wk B bb w x1) := ⟨by rw [encAt_append, ← List.append_assoc]; exact p1, H0.out.2.trans p2⟩; clear p1 p2)))
    | fail
  have E2 : Aside0 (sc_notice = ((([]) ++ (at_ .t [0, 1])) ++ (sc_lines (2))) ++ ((at_ .b [50]))) := ⟨by rw [E1.out]; first | rfl | simp [sc_notice, List.append_assoc]⟩
  have l2 : (bs ++ encAt (([]) ++ (at_ .t [0, 1])) vs).length + (encAt (sc_lines (2)) vs).length ≤ 140737488355328 := by
    have z := HL.out
    rw [E2.out, encAt_append, encAt_append] at z
    simp only [List.length_append] at z ⊢
    omega
  have k2 : OkAt (sc_lines (2)) vs := by
    have z := HK.out
    rw [E2.out] at z
    exact z.left.right
  have L2 := Aside0.mk (And.intro l2 k2)
  clear l2 k2
  go_wp2_with (fail)
  first
    | (refine (lines_w _ _ _ _ (2) _ _ _ _ H1.out.1 (H1.out.2.cs HX.out HT.out.1 hxb) HT.out.1 HT.out.2 L2.out.2 L2.out.1).mono ?_; rintro e x2 ⟨rfl, p1, p2⟩; have H2 : Aside0 (Wr B wb bb (bs ++ encAt ((([]) ++ (at_ .t [0, 1])) ++ (sc_lines (2))) vs) x2 ∧ Wk B bb w x2) := ⟨by rw [encAt_append, ← List.append_assoc]; exact p1, H1.out.2.trans p2⟩; clear p1 p2)
    | (go_region_held3 (fun _ => True) (trivial) ((go_at_call 71; refine (lines_w _ _ _ _ (2) _ _ _ _ H1.out.1 (H1.out.2.cs HX.out HT.out.1 hxb) HT.out.1 HT.out.2 L2.out.2 L2.out.1).mono ?_; rintro e x2 ⟨rfl, p1, p2⟩; have H2 : Aside0 (Wr B wb bb (bs ++ encAt ((([]) ++ (at_ .t [0, 1])) ++ (sc_lines (2))) vs) x2 ∧ Wk B bb w x2) := ⟨by rw [encAt_append, ← List.append_assoc]; exact p1, H1.out.2.trans p2⟩; clear p1 p2)))
    | fail
  have E3 : Aside0 (sc_notice = (((([]) ++ (at_ .t [0, 1])) ++ (sc_lines (2))) ++ (at_ .b [50])) ++ (([] : Sc))) := ⟨by rw [E2.out]; first | rfl | simp [sc_notice, List.append_assoc]⟩
  have l3 : (bs ++ encAt ((([]) ++ (at_ .t [0, 1])) ++ (sc_lines (2))) vs).length + (encAt (at_ .b [50]) vs).length ≤ 140737488355328 := by
    have z := HL.out
    rw [E3.out, encAt_append, encAt_append] at z
    simp only [List.length_append] at z ⊢
    omega
  have k3 : OkAt (at_ .b [50]) vs := by
    have z := HK.out
    rw [E3.out] at z
    exact z.left.right
  have L3 := Aside0.mk (And.intro l3 k3)
  clear l3 k3
  go_wp2_with (fail)
  first
    | (refine (truths_wc (alloc_below _ _) [50] (cs_alloc _ _ _ _ rfl) H2.out.1 (H2.out.2.cs HX.out HT.out.1 hxb) HT.out.1 HT.out.2 rfl L3.out.2 L3.out.1 (by first | decide | simp)).mono ?_; rintro e x3 ⟨rfl, p1, p2⟩; have H3 : Aside0 (Wr B wb bb (bs ++ encAt (((([]) ++ (at_ .t [0, 1])) ++ (sc_lines (2))) ++ (at_ .b [50])) vs) x3 ∧ Wk B bb w x3) := ⟨by rw [encAt_append, ← List.append_assoc]; exact p1, H2.out.2.trans p2⟩; clear p1 p2)
    | (go_region_held3 (fun _ => True) (trivial) ((go_at_call 72; refine (truths_wc (alloc_drew _ _) [50] (cs_drew _ _ _ _ rfl) H2.out.1 (H2.out.2.cs HX.out HT.out.1 hxb) HT.out.1 HT.out.2 rfl L3.out.2 L3.out.1 (by first | decide | simp)).mono ?_; rintro e x3 ⟨rfl, p1, p2⟩; have H3 : Aside0 (Wr B wb bb (bs ++ encAt (((([]) ++ (at_ .t [0, 1])) ++ (sc_lines (2))) ++ (at_ .b [50])) vs) x3 ∧ Wk B bb w x3) := ⟨by rw [encAt_append, ← List.append_assoc]; exact p1, H2.out.2.trans p2⟩; clear p1 p2)))
    | fail
  go_wp2
  go_end0
  have ef : sc_notice = ((([]) ++ (at_ .t [0, 1])) ++ (sc_lines (2))) ++ (at_ .b [50]) := by first | rfl | simp [sc_notice, List.append_assoc]
  exact ⟨rfl, by rw [ef]; exact H3.out.1, H3.out.2⟩
set_option maxHeartbeats 8000000 in
set_option maxRecDepth 100000 in
theorem notice_r {wb xb : Nat} {s : Rd} {T : TypeId} {vs : List Value} {w : World} (h : Rw wb s w) (hx : Cs xb T vs w) (hxw : xb ≠ wb) (hj : ∀ x ∈ sc_notice, x.2 < vs.length) (hl : s.D.length ≤ 1000000000000) :
    Calls Tryz.prog 70 #[.pointer (some ⟨wb, 0, none⟩), .pointer (some ⟨xb, 0, none⟩)] w (Redd wb xb T (rdAt sc_notice (s, vs)) w) := by
  have H0 : Aside0 (Rw wb (rdAt ([]) (s, vs)).1 w ∧ Cs xb T (rdAt ([]) (s, vs)).2 w ∧ Fr (fun i => i = wb ∨ i = xb) w w) := ⟨h, hx, Fr.refl _ _⟩
  have HXW := Aside0.mk hxw
  have HJ := Aside0.mk hj
  have HL := Aside0.mk hl
  clear h hx hxw hj hl
  have ES0 : Aside0 (sc_notice = ([] : Sc) ++ (sc_notice)) := ⟨rfl⟩
  go_enter Tryz.func70, Tryz.ntmps70
  have E1 : Aside0 (sc_notice = (([]) ++ (at_ .t [0, 1])) ++ ((sc_lines (2)) ++ (at_ .b [50]))) := ⟨by rw [ES0.out]; first | rfl | simp [sc_notice, List.append_assoc]⟩
  have k1 : ∀ x ∈ (at_ .t [0, 1] : Sc), x.2 < (rdAt ([]) (s, vs)).2.length := fun x hx => by
    rw [(rdAt_len _ _).2]
    refine HJ.out x ?_
    rw [E1.out]
    exact List.mem_append_left _ (List.mem_append_right _ hx)
  have j1 : ∀ j ∈ ([0, 1] : List Nat), j < (rdAt ([]) (s, vs)).2.length := fun j hj => k1 (.t, j) (List.mem_map.2 ⟨j, hj, rfl⟩)
  have L1 := Aside0.mk (And.intro j1 (Nat.le_trans (rdAt_len ([]) (s, vs)).1 HL.out))
  clear k1 j1
  go_wp2_with (fail)
  first
    | (refine (texts_rc (alloc_below _ _) [0, 1] (cs_alloc _ _ _ _ rfl) H0.out.1 H0.out.2.1 HXW.out rfl L1.out.1 L1.out.2 (by first | decide | simp)).mono ?_; rintro e x1 ⟨rfl, p1, p2, p3⟩; have H1 : Aside0 (Rw wb (rdAt (([]) ++ (at_ .t [0, 1])) (s, vs)).1 x1 ∧ Cs xb T (rdAt (([]) ++ (at_ .t [0, 1])) (s, vs)).2 x1 ∧ Fr (fun i => i = wb ∨ i = xb) w x1) := ⟨by rw [rdAt_append]; exact p1, by rw [rdAt_append]; exact p2, H0.out.2.2.trans p3 fun i hi => .inl hi⟩; clear p1 p2 p3)
    | (go_region_held3 (fun _ => True) (trivial) ((go_at_call 58; refine (texts_rc (alloc_drew _ _) [0, 1] (cs_drew _ _ _ _ rfl) H0.out.1 H0.out.2.1 HXW.out rfl L1.out.1 L1.out.2 (by first | decide | simp)).mono ?_; rintro e x1 ⟨rfl, p1, p2, p3⟩; have H1 : Aside0 (Rw wb (rdAt (([]) ++ (at_ .t [0, 1])) (s, vs)).1 x1 ∧ Cs xb T (rdAt (([]) ++ (at_ .t [0, 1])) (s, vs)).2 x1 ∧ Fr (fun i => i = wb ∨ i = xb) w x1) := ⟨by rw [rdAt_append]; exact p1, by rw [rdAt_append]; exact p2, H0.out.2.2.trans p3 fun i hi => .inl hi⟩; clear p1 p2 p3)))
    | fail
  have E2 : Aside0 (sc_notice = ((([]) ++ (at_ .t [0, 1])) ++ (sc_lines (2))) ++ ((at_ .b [50]))) := ⟨by rw [E1.out]; first | rfl | simp [sc_notice, List.append_assoc]⟩
  have k2 : ∀ x ∈ (sc_lines (2) : Sc), x.2 < (rdAt (([]) ++ (at_ .t [0, 1])) (s, vs)).2.length := fun x hx => by
    rw [(rdAt_len _ _).2]
    refine HJ.out x ?_
    rw [E2.out]
    exact List.mem_append_left _ (List.mem_append_right _ hx)
  have j2 := k2
  have L2 := Aside0.mk (And.intro j2 (Nat.le_trans (rdAt_len (([]) ++ (at_ .t [0, 1])) (s, vs)).1 HL.out))
  clear k2 j2
  go_wp2_with (fail)
  first
    | (refine (lines_r _ _ (2) _ _ _ _ H1.out.1 H1.out.2.1 HXW.out L2.out.1 L2.out.2).mono ?_; rintro e x2 ⟨rfl, p1, p2, p3⟩; have H2 : Aside0 (Rw wb (rdAt ((([]) ++ (at_ .t [0, 1])) ++ (sc_lines (2))) (s, vs)).1 x2 ∧ Cs xb T (rdAt ((([]) ++ (at_ .t [0, 1])) ++ (sc_lines (2))) (s, vs)).2 x2 ∧ Fr (fun i => i = wb ∨ i = xb) w x2) := ⟨by rw [rdAt_append]; exact p1, by rw [rdAt_append]; exact p2, H1.out.2.2.trans p3 fun i hi => .inl hi⟩; clear p1 p2 p3)
    | (go_region_held3 (fun _ => True) (trivial) ((go_at_call 71; refine (lines_r _ _ (2) _ _ _ _ H1.out.1 H1.out.2.1 HXW.out L2.out.1 L2.out.2).mono ?_; rintro e x2 ⟨rfl, p1, p2, p3⟩; have H2 : Aside0 (Rw wb (rdAt ((([]) ++ (at_ .t [0, 1])) ++ (sc_lines (2))) (s, vs)).1 x2 ∧ Cs xb T (rdAt ((([]) ++ (at_ .t [0, 1])) ++ (sc_lines (2))) (s, vs)).2 x2 ∧ Fr (fun i => i = wb ∨ i = xb) w x2) := ⟨by rw [rdAt_append]; exact p1, by rw [rdAt_append]; exact p2, H1.out.2.2.trans p3 fun i hi => .inl hi⟩; clear p1 p2 p3)))
    | fail
  have E3 : Aside0 (sc_notice = (((([]) ++ (at_ .t [0, 1])) ++ (sc_lines (2))) ++ (at_ .b [50])) ++ (([] : Sc))) := ⟨by rw [E2.out]; first | rfl | simp [sc_notice, List.append_assoc]⟩
  have k3 : ∀ x ∈ (at_ .b [50] : Sc), x.2 < (rdAt ((([]) ++ (at_ .t [0, 1])) ++ (sc_lines (2))) (s, vs)).2.length := fun x hx => by
    rw [(rdAt_len _ _).2]
    refine HJ.out x ?_
    rw [E3.out]
    exact List.mem_append_left _ (List.mem_append_right _ hx)
  have j3 : ∀ j ∈ ([50] : List Nat), j < (rdAt ((([]) ++ (at_ .t [0, 1])) ++ (sc_lines (2))) (s, vs)).2.length := fun j hj => k3 (.b, j) (List.mem_map.2 ⟨j, hj, rfl⟩)
  have L3 := Aside0.mk (And.intro j3 (Nat.le_trans (rdAt_len ((([]) ++ (at_ .t [0, 1])) ++ (sc_lines (2))) (s, vs)).1 HL.out))
  clear k3 j3
  go_wp2_with (fail)
  first
    | (refine (truths_rc (alloc_below _ _) [50] (cs_alloc _ _ _ _ rfl) H2.out.1 H2.out.2.1 HXW.out rfl L3.out.1 L3.out.2 (by first | decide | simp)).mono ?_; rintro e x3 ⟨rfl, p1, p2, p3⟩; have H3 : Aside0 (Rw wb (rdAt (((([]) ++ (at_ .t [0, 1])) ++ (sc_lines (2))) ++ (at_ .b [50])) (s, vs)).1 x3 ∧ Cs xb T (rdAt (((([]) ++ (at_ .t [0, 1])) ++ (sc_lines (2))) ++ (at_ .b [50])) (s, vs)).2 x3 ∧ Fr (fun i => i = wb ∨ i = xb) w x3) := ⟨by rw [rdAt_append]; exact p1, by rw [rdAt_append]; exact p2, H2.out.2.2.trans p3 fun i hi => .inl hi⟩; clear p1 p2 p3)
    | (go_region_held3 (fun _ => True) (trivial) ((go_at_call 72; refine (truths_rc (alloc_drew _ _) [50] (cs_drew _ _ _ _ rfl) H2.out.1 H2.out.2.1 HXW.out rfl L3.out.1 L3.out.2 (by first | decide | simp)).mono ?_; rintro e x3 ⟨rfl, p1, p2, p3⟩; have H3 : Aside0 (Rw wb (rdAt (((([]) ++ (at_ .t [0, 1])) ++ (sc_lines (2))) ++ (at_ .b [50])) (s, vs)).1 x3 ∧ Cs xb T (rdAt (((([]) ++ (at_ .t [0, 1])) ++ (sc_lines (2))) ++ (at_ .b [50])) (s, vs)).2 x3 ∧ Fr (fun i => i = wb ∨ i = xb) w x3) := ⟨by rw [rdAt_append]; exact p1, by rw [rdAt_append]; exact p2, H2.out.2.2.trans p3 fun i hi => .inl hi⟩; clear p1 p2 p3)))
    | fail
  go_wp2
  go_end0
  have ef : sc_notice = ((([]) ++ (at_ .t [0, 1])) ++ (sc_lines (2))) ++ (at_ .b [50]) := by first | rfl | simp [sc_notice, List.append_assoc]
  rw [ef]
  exact ⟨rfl, H3.out⟩
def sc_order : Sc := (at_ .t [0, 1]) ++ (sc_lines (2))
set_option maxHeartbeats 8000000 in
set_option maxRecDepth 100000 in
theorem order_w {B wb bb xb : Nat} {bs : List UInt8} {T : TypeId} {vs : List Value} {w : World} (h : Wr B wb bb bs w) (hx : Cs xb T vs w) (hT : T ≠ 5) (hT2 : T ≠ 108) (hk : OkAt sc_order vs) (hl : bs.length + (encAt sc_order vs).length ≤ 140737488355328) :
    Calls Tryz.prog 74 #[.pointer (some ⟨wb, 0, none⟩), .pointer (some ⟨xb, 0, none⟩)] w (Writ B wb bb (bs ++ encAt sc_order vs) w) := by
  have H0 : Aside0 (Wr B wb bb (bs ++ encAt ([]) vs) w ∧ Wk B bb w w) := ⟨by simpa [encAt] using h, Wk.refl _ _ _⟩
  have hxb : xb ≠ bb := h.bbT hx hT2
  have HX := Aside0.mk hx
  have HT := Aside0.mk (And.intro hT hT2)
  have HK := Aside0.mk hk
  have HL := Aside0.mk hl
  clear h hx hT hT2 hk hl
  have ES0 : Aside0 (sc_order = ([] : Sc) ++ (sc_order)) := ⟨rfl⟩
  go_enter Tryz.func74, Tryz.ntmps74
  have E1 : Aside0 (sc_order = (([]) ++ (at_ .t [0, 1])) ++ ((sc_lines (2)))) := ⟨by rw [ES0.out]; first | rfl | simp [sc_order, List.append_assoc]⟩
  have l1 : (bs ++ encAt ([]) vs).length + (encAt (at_ .t [0, 1]) vs).length ≤ 140737488355328 := by
    have z := HL.out
    rw [E1.out, encAt_append, encAt_append] at z
    simp only [List.length_append] at z ⊢
    omega
  have k1 : OkAt (at_ .t [0, 1]) vs := by
    have z := HK.out
    rw [E1.out] at z
    exact z.left.right
  have L1 := Aside0.mk (And.intro l1 k1)
  clear l1 k1
  go_wp2_with (fail)
  first
    | (refine (texts_wc (alloc_below _ _) [0, 1] (cs_alloc _ _ _ _ rfl) H0.out.1 (H0.out.2.cs HX.out HT.out.1 hxb) HT.out.1 HT.out.2 rfl L1.out.2 L1.out.1 (by first | decide | simp)).mono ?_; rintro e x1 ⟨rfl, p1, p2⟩; have H1 : Aside0 (Wr B wb bb (bs ++ encAt (([]) ++ (at_ .t [0, 1])) vs) x1 ∧ Wk B bb w x1) := ⟨by rw [encAt_append, ← List.append_assoc]; exact p1, H0.out.2.trans p2⟩; clear p1 p2)
    | (go_region_held3 (fun _ => True) (trivial) ((go_at_call 58; refine (texts_wc (alloc_drew _ _) [0, 1] (cs_drew _ _ _ _ rfl) H0.out.1 (H0.out.2.cs HX.out HT.out.1 hxb) HT.out.1 HT.out.2 rfl L1.out.2 L1.out.1 (by first | decide | simp)).mono ?_; rintro e x1 ⟨rfl, p1, p2⟩; have H1 : Aside0 (Wr B wb bb (bs ++ encAt (([]) ++ (at_ .t [0, 1])) vs) x1 ∧ Wk B bb w x1) := ⟨by rw [encAt_append, ← List.append_assoc]; exact p1, H0.out.2.trans p2⟩; clear p1 p2)))
    | fail
  have E2 : Aside0 (sc_order = ((([]) ++ (at_ .t [0, 1])) ++ (sc_lines (2))) ++ (([] : Sc))) := ⟨by rw [E1.out]; first | rfl | simp [sc_order, List.append_assoc]⟩
  have l2 : (bs ++ encAt (([]) ++ (at_ .t [0, 1])) vs).length + (encAt (sc_lines (2)) vs).length ≤ 140737488355328 := by
    have z := HL.out
    rw [E2.out, encAt_append, encAt_append] at z
    simp only [List.length_append] at z ⊢
    omega
  have k2 : OkAt (sc_lines (2)) vs := by
    have z := HK.out
    rw [E2.out] at z
    exact z.left.right
  have L2 := Aside0.mk (And.intro l2 k2)
  clear l2 k2
  go_wp2_with (fail)
  first
    | (refine (lines_w _ _ _ _ (2) _ _ _ _ H1.out.1 (H1.out.2.cs HX.out HT.out.1 hxb) HT.out.1 HT.out.2 L2.out.2 L2.out.1).mono ?_; rintro e x2 ⟨rfl, p1, p2⟩; have H2 : Aside0 (Wr B wb bb (bs ++ encAt ((([]) ++ (at_ .t [0, 1])) ++ (sc_lines (2))) vs) x2 ∧ Wk B bb w x2) := ⟨by rw [encAt_append, ← List.append_assoc]; exact p1, H1.out.2.trans p2⟩; clear p1 p2)
    | (go_region_held3 (fun _ => True) (trivial) ((go_at_call 71; refine (lines_w _ _ _ _ (2) _ _ _ _ H1.out.1 (H1.out.2.cs HX.out HT.out.1 hxb) HT.out.1 HT.out.2 L2.out.2 L2.out.1).mono ?_; rintro e x2 ⟨rfl, p1, p2⟩; have H2 : Aside0 (Wr B wb bb (bs ++ encAt ((([]) ++ (at_ .t [0, 1])) ++ (sc_lines (2))) vs) x2 ∧ Wk B bb w x2) := ⟨by rw [encAt_append, ← List.append_assoc]; exact p1, H1.out.2.trans p2⟩; clear p1 p2)))
    | fail
  go_wp2
  go_end0
  have ef : sc_order = (([]) ++ (at_ .t [0, 1])) ++ (sc_lines (2)) := by first | rfl | simp [sc_order, List.append_assoc]
  exact ⟨rfl, by rw [ef]; exact H2.out.1, H2.out.2⟩
set_option maxHeartbeats 8000000 in
set_option maxRecDepth 100000 in
theorem order_r {wb xb : Nat} {s : Rd} {T : TypeId} {vs : List Value} {w : World} (h : Rw wb s w) (hx : Cs xb T vs w) (hxw : xb ≠ wb) (hj : ∀ x ∈ sc_order, x.2 < vs.length) (hl : s.D.length ≤ 1000000000000) :
    Calls Tryz.prog 74 #[.pointer (some ⟨wb, 0, none⟩), .pointer (some ⟨xb, 0, none⟩)] w (Redd wb xb T (rdAt sc_order (s, vs)) w) := by
  have H0 : Aside0 (Rw wb (rdAt ([]) (s, vs)).1 w ∧ Cs xb T (rdAt ([]) (s, vs)).2 w ∧ Fr (fun i => i = wb ∨ i = xb) w w) := ⟨h, hx, Fr.refl _ _⟩
  have HXW := Aside0.mk hxw
  have HJ := Aside0.mk hj
  have HL := Aside0.mk hl
  clear h hx hxw hj hl
  have ES0 : Aside0 (sc_order = ([] : Sc) ++ (sc_order)) := ⟨rfl⟩
  go_enter Tryz.func74, Tryz.ntmps74
  have E1 : Aside0 (sc_order = (([]) ++ (at_ .t [0, 1])) ++ ((sc_lines (2)))) := ⟨by rw [ES0.out]; first | rfl | simp [sc_order, List.append_assoc]⟩
  have k1 : ∀ x ∈ (at_ .t [0, 1] : Sc), x.2 < (rdAt ([]) (s, vs)).2.length := fun x hx => by
    rw [(rdAt_len _ _).2]
    refine HJ.out x ?_
    rw [E1.out]
    exact List.mem_append_left _ (List.mem_append_right _ hx)
  have j1 : ∀ j ∈ ([0, 1] : List Nat), j < (rdAt ([]) (s, vs)).2.length := fun j hj => k1 (.t, j) (List.mem_map.2 ⟨j, hj, rfl⟩)
  have L1 := Aside0.mk (And.intro j1 (Nat.le_trans (rdAt_len ([]) (s, vs)).1 HL.out))
  clear k1 j1
  go_wp2_with (fail)
  first
    | (refine (texts_rc (alloc_below _ _) [0, 1] (cs_alloc _ _ _ _ rfl) H0.out.1 H0.out.2.1 HXW.out rfl L1.out.1 L1.out.2 (by first | decide | simp)).mono ?_; rintro e x1 ⟨rfl, p1, p2, p3⟩; have H1 : Aside0 (Rw wb (rdAt (([]) ++ (at_ .t [0, 1])) (s, vs)).1 x1 ∧ Cs xb T (rdAt (([]) ++ (at_ .t [0, 1])) (s, vs)).2 x1 ∧ Fr (fun i => i = wb ∨ i = xb) w x1) := ⟨by rw [rdAt_append]; exact p1, by rw [rdAt_append]; exact p2, H0.out.2.2.trans p3 fun i hi => .inl hi⟩; clear p1 p2 p3)
    | (go_region_held3 (fun _ => True) (trivial) ((go_at_call 58; refine (texts_rc (alloc_drew _ _) [0, 1] (cs_drew _ _ _ _ rfl) H0.out.1 H0.out.2.1 HXW.out rfl L1.out.1 L1.out.2 (by first | decide | simp)).mono ?_; rintro e x1 ⟨rfl, p1, p2, p3⟩; have H1 : Aside0 (Rw wb (rdAt (([]) ++ (at_ .t [0, 1])) (s, vs)).1 x1 ∧ Cs xb T (rdAt (([]) ++ (at_ .t [0, 1])) (s, vs)).2 x1 ∧ Fr (fun i => i = wb ∨ i = xb) w x1) := ⟨by rw [rdAt_append]; exact p1, by rw [rdAt_append]; exact p2, H0.out.2.2.trans p3 fun i hi => .inl hi⟩; clear p1 p2 p3)))
    | fail
  have E2 : Aside0 (sc_order = ((([]) ++ (at_ .t [0, 1])) ++ (sc_lines (2))) ++ (([] : Sc))) := ⟨by rw [E1.out]; first | rfl | simp [sc_order, List.append_assoc]⟩
  have k2 : ∀ x ∈ (sc_lines (2) : Sc), x.2 < (rdAt (([]) ++ (at_ .t [0, 1])) (s, vs)).2.length := fun x hx => by
    rw [(rdAt_len _ _).2]
    refine HJ.out x ?_
    rw [E2.out]
    exact List.mem_append_left _ (List.mem_append_right _ hx)
  have j2 := k2
  have L2 := Aside0.mk (And.intro j2 (Nat.le_trans (rdAt_len (([]) ++ (at_ .t [0, 1])) (s, vs)).1 HL.out))
  clear k2 j2
  go_wp2_with (fail)
  first
    | (refine (lines_r _ _ (2) _ _ _ _ H1.out.1 H1.out.2.1 HXW.out L2.out.1 L2.out.2).mono ?_; rintro e x2 ⟨rfl, p1, p2, p3⟩; have H2 : Aside0 (Rw wb (rdAt ((([]) ++ (at_ .t [0, 1])) ++ (sc_lines (2))) (s, vs)).1 x2 ∧ Cs xb T (rdAt ((([]) ++ (at_ .t [0, 1])) ++ (sc_lines (2))) (s, vs)).2 x2 ∧ Fr (fun i => i = wb ∨ i = xb) w x2) := ⟨by rw [rdAt_append]; exact p1, by rw [rdAt_append]; exact p2, H1.out.2.2.trans p3 fun i hi => .inl hi⟩; clear p1 p2 p3)
    | (go_region_held3 (fun _ => True) (trivial) ((go_at_call 71; refine (lines_r _ _ (2) _ _ _ _ H1.out.1 H1.out.2.1 HXW.out L2.out.1 L2.out.2).mono ?_; rintro e x2 ⟨rfl, p1, p2, p3⟩; have H2 : Aside0 (Rw wb (rdAt ((([]) ++ (at_ .t [0, 1])) ++ (sc_lines (2))) (s, vs)).1 x2 ∧ Cs xb T (rdAt ((([]) ++ (at_ .t [0, 1])) ++ (sc_lines (2))) (s, vs)).2 x2 ∧ Fr (fun i => i = wb ∨ i = xb) w x2) := ⟨by rw [rdAt_append]; exact p1, by rw [rdAt_append]; exact p2, H1.out.2.2.trans p3 fun i hi => .inl hi⟩; clear p1 p2 p3)))
    | fail
  go_wp2
  go_end0
  have ef : sc_order = (([]) ++ (at_ .t [0, 1])) ++ (sc_lines (2)) := by first | rfl | simp [sc_order, List.append_assoc]
  rw [ef]
  exact ⟨rfl, H2.out⟩
end Go.Proofs.YtgdoodeibcfcjaaGreat.Wire
