/- The codec's functions that lay and read a thing's fields, walked in both modes: key, lot, zone, bin, quant, rule, claim, task, parcel, sent, counted, total, str, int. Printed by cgen.py. -/
import Derived.Test.YtgdoodeibcfcjaaGreatCEach
set_option linter.unusedVariables false
set_option linter.unusedSimpArgs false
namespace Go.Proofs.YtgdoodeibcfcjaaGreat.Wire
open Go.RowKit Go.Proofs.YtgdoodeibcfcjaaGreat.NumsPure Go.Proofs.YtgdoodeibcfcjaaGreat.CPure Go.Proofs.YtgdoodeibcfcjaaGreat.Own
open Go.Proofs.YtgdoodeibcfcjaaGreat.Put (digits digits_lt digits_ge)
open Go.Proofs.YtgdoodeibcfcjaaGreat.BldS (Keeps)
def sc_key (o : Nat) : Sc := (at_ .t [o, o + 1, o + 2]) ++ (at_ .n [o + 3])
set_option maxHeartbeats 8000000 in
set_option maxRecDepth 100000 in
theorem key_w : WritesAt 66 sc_key := by
  intro B wb bb xb o bs T vs w h hx hT hT2 hk hl
  have H0 : Aside0 (Wr B wb bb (bs ++ encAt ([]) vs) w ∧ Wk B bb w w) := ⟨by simpa [encAt] using h, Wk.refl _ _ _⟩
  have hxb : xb ≠ bb := h.bbT hx hT2
  have HX := Aside0.mk hx
  have HT := Aside0.mk (And.intro hT hT2)
  have HK := Aside0.mk hk
  have HL := Aside0.mk hl
  clear h hx hT hT2 hk hl
  have ES0 : Aside0 (sc_key o = ([] : Sc) ++ (sc_key o)) := ⟨rfl⟩
  go_enter Tryz.func66, Tryz.ntmps66
  have E1 : Aside0 (sc_key o = (([]) ++ (at_ .t [o, o + 1, o + 2])) ++ ((at_ .n [o + 3]))) := ⟨by rw [ES0.out]; first | rfl | simp [sc_key, List.append_assoc]⟩
  have l1 : (bs ++ encAt ([]) vs).length + (encAt (at_ .t [o, o + 1, o + 2]) vs).length ≤ 140737488355328 := by
    have z := HL.out
    rw [E1.out, encAt_append, encAt_append] at z
    simp only [List.length_append] at z ⊢
    omega
  have k1 : OkAt (at_ .t [o, o + 1, o + 2]) vs := by
    have z := HK.out
    rw [E1.out] at z
    exact z.left.right
  have L1 := Aside0.mk (And.intro l1 k1)
  clear l1 k1
  go_wp2_with (fail)
  first
    | (refine (texts_wc (alloc_below _ _) [o, o + 1, o + 2] (cs_alloc _ _ _ _ rfl) H0.out.1 (H0.out.2.cs HX.out HT.out.1 hxb) HT.out.1 HT.out.2 rfl L1.out.2 L1.out.1 (by first | decide | simp)).mono ?_; rintro e x1 ⟨rfl, p1, p2⟩; have H1 : Aside0 (Wr B wb bb (bs ++ encAt (([]) ++ (at_ .t [o, o + 1, o + 2])) vs) x1 ∧ Wk B bb w x1) := ⟨by rw [encAt_append, ← List.append_assoc]; exact p1, H0.out.2.trans p2⟩; clear p1 p2)
    | (go_region_held3 (fun _ => True) (trivial) ((go_at_call 58; refine (texts_wc (alloc_drew _ _) [o, o + 1, o + 2] (cs_drew _ _ _ _ rfl) H0.out.1 (H0.out.2.cs HX.out HT.out.1 hxb) HT.out.1 HT.out.2 rfl L1.out.2 L1.out.1 (by first | decide | simp)).mono ?_; rintro e x1 ⟨rfl, p1, p2⟩; have H1 : Aside0 (Wr B wb bb (bs ++ encAt (([]) ++ (at_ .t [o, o + 1, o + 2])) vs) x1 ∧ Wk B bb w x1) := ⟨by rw [encAt_append, ← List.append_assoc]; exact p1, H0.out.2.trans p2⟩; clear p1 p2)))
    | fail
  have E2 : Aside0 (sc_key o = ((([]) ++ (at_ .t [o, o + 1, o + 2])) ++ (at_ .n [o + 3])) ++ (([] : Sc))) := ⟨by rw [E1.out]; first | rfl | simp [sc_key, List.append_assoc]⟩
  have l2 : (bs ++ encAt (([]) ++ (at_ .t [o, o + 1, o + 2])) vs).length + (encAt (at_ .n [o + 3]) vs).length ≤ 140737488355328 := by
    have z := HL.out
    rw [E2.out, encAt_append, encAt_append] at z
    simp only [List.length_append] at z ⊢
    omega
  have k2 : OkAt (at_ .n [o + 3]) vs := by
    have z := HK.out
    rw [E2.out] at z
    exact z.left.right
  have L2 := Aside0.mk (And.intro l2 k2)
  clear l2 k2
  go_wp2_with (fail)
  first
    | (refine (nums_wc (alloc_below _ _) [o + 3] (cs_alloc _ _ _ _ rfl) H1.out.1 (H1.out.2.cs HX.out HT.out.1 hxb) HT.out.1 HT.out.2 rfl L2.out.2 L2.out.1 (by first | decide | simp)).mono ?_; rintro e x2 ⟨rfl, p1, p2⟩; have H2 : Aside0 (Wr B wb bb (bs ++ encAt ((([]) ++ (at_ .t [o, o + 1, o + 2])) ++ (at_ .n [o + 3])) vs) x2 ∧ Wk B bb w x2) := ⟨by rw [encAt_append, ← List.append_assoc]; exact p1, H1.out.2.trans p2⟩; clear p1 p2)
    | (go_region_held3 (fun _ => True) (trivial) ((go_at_call 59; refine (nums_wc (alloc_drew _ _) [o + 3] (cs_drew _ _ _ _ rfl) H1.out.1 (H1.out.2.cs HX.out HT.out.1 hxb) HT.out.1 HT.out.2 rfl L2.out.2 L2.out.1 (by first | decide | simp)).mono ?_; rintro e x2 ⟨rfl, p1, p2⟩; have H2 : Aside0 (Wr B wb bb (bs ++ encAt ((([]) ++ (at_ .t [o, o + 1, o + 2])) ++ (at_ .n [o + 3])) vs) x2 ∧ Wk B bb w x2) := ⟨by rw [encAt_append, ← List.append_assoc]; exact p1, H1.out.2.trans p2⟩; clear p1 p2)))
    | fail
  go_wp2
  go_end0
  have ef : sc_key o = (([]) ++ (at_ .t [o, o + 1, o + 2])) ++ (at_ .n [o + 3]) := by first | rfl | simp [sc_key, List.append_assoc]
  exact ⟨rfl, by rw [ef]; exact H2.out.1, H2.out.2⟩
set_option maxHeartbeats 8000000 in
set_option maxRecDepth 100000 in
theorem key_r : ReadsAt 66 sc_key := by
  intro wb xb o s T vs w h hx hxw hj hl
  have H0 : Aside0 (Rw wb (rdAt ([]) (s, vs)).1 w ∧ Cs xb T (rdAt ([]) (s, vs)).2 w ∧ Fr (fun i => i = wb ∨ i = xb) w w) := ⟨h, hx, Fr.refl _ _⟩
  have HXW := Aside0.mk hxw
  have HJ := Aside0.mk hj
  have HL := Aside0.mk hl
  clear h hx hxw hj hl
  have ES0 : Aside0 (sc_key o = ([] : Sc) ++ (sc_key o)) := ⟨rfl⟩
  go_enter Tryz.func66, Tryz.ntmps66
  have E1 : Aside0 (sc_key o = (([]) ++ (at_ .t [o, o + 1, o + 2])) ++ ((at_ .n [o + 3]))) := ⟨by rw [ES0.out]; first | rfl | simp [sc_key, List.append_assoc]⟩
  have k1 : ∀ x ∈ (at_ .t [o, o + 1, o + 2] : Sc), x.2 < (rdAt ([]) (s, vs)).2.length := fun x hx => by
    rw [(rdAt_len _ _).2]
    refine HJ.out x ?_
    rw [E1.out]
    exact List.mem_append_left _ (List.mem_append_right _ hx)
  have j1 : ∀ j ∈ ([o, o + 1, o + 2] : List Nat), j < (rdAt ([]) (s, vs)).2.length := fun j hj => k1 (.t, j) (List.mem_map.2 ⟨j, hj, rfl⟩)
  have L1 := Aside0.mk (And.intro j1 (Nat.le_trans (rdAt_len ([]) (s, vs)).1 HL.out))
  clear k1 j1
  go_wp2_with (fail)
  first
    | (refine (texts_rc (alloc_below _ _) [o, o + 1, o + 2] (cs_alloc _ _ _ _ rfl) H0.out.1 H0.out.2.1 HXW.out rfl L1.out.1 L1.out.2 (by first | decide | simp)).mono ?_; rintro e x1 ⟨rfl, p1, p2, p3⟩; have H1 : Aside0 (Rw wb (rdAt (([]) ++ (at_ .t [o, o + 1, o + 2])) (s, vs)).1 x1 ∧ Cs xb T (rdAt (([]) ++ (at_ .t [o, o + 1, o + 2])) (s, vs)).2 x1 ∧ Fr (fun i => i = wb ∨ i = xb) w x1) := ⟨by rw [rdAt_append]; exact p1, by rw [rdAt_append]; exact p2, H0.out.2.2.trans p3 fun i hi => .inl hi⟩; clear p1 p2 p3)
    | (go_region_held3 (fun _ => True) (trivial) ((go_at_call 58; refine (texts_rc (alloc_drew _ _) [o, o + 1, o + 2] (cs_drew _ _ _ _ rfl) H0.out.1 H0.out.2.1 HXW.out rfl L1.out.1 L1.out.2 (by first | decide | simp)).mono ?_; rintro e x1 ⟨rfl, p1, p2, p3⟩; have H1 : Aside0 (Rw wb (rdAt (([]) ++ (at_ .t [o, o + 1, o + 2])) (s, vs)).1 x1 ∧ Cs xb T (rdAt (([]) ++ (at_ .t [o, o + 1, o + 2])) (s, vs)).2 x1 ∧ Fr (fun i => i = wb ∨ i = xb) w x1) := ⟨by rw [rdAt_append]; exact p1, by rw [rdAt_append]; exact p2, H0.out.2.2.trans p3 fun i hi => .inl hi⟩; clear p1 p2 p3)))
    | fail
  have E2 : Aside0 (sc_key o = ((([]) ++ (at_ .t [o, o + 1, o + 2])) ++ (at_ .n [o + 3])) ++ (([] : Sc))) := ⟨by rw [E1.out]; first | rfl | simp [sc_key, List.append_assoc]⟩
  have k2 : ∀ x ∈ (at_ .n [o + 3] : Sc), x.2 < (rdAt (([]) ++ (at_ .t [o, o + 1, o + 2])) (s, vs)).2.length := fun x hx => by
    rw [(rdAt_len _ _).2]
    refine HJ.out x ?_
    rw [E2.out]
    exact List.mem_append_left _ (List.mem_append_right _ hx)
  have j2 : ∀ j ∈ ([o + 3] : List Nat), j < (rdAt (([]) ++ (at_ .t [o, o + 1, o + 2])) (s, vs)).2.length := fun j hj => k2 (.n, j) (List.mem_map.2 ⟨j, hj, rfl⟩)
  have L2 := Aside0.mk (And.intro j2 (Nat.le_trans (rdAt_len (([]) ++ (at_ .t [o, o + 1, o + 2])) (s, vs)).1 HL.out))
  clear k2 j2
  go_wp2_with (fail)
  first
    | (refine (nums_rc (alloc_below _ _) [o + 3] (cs_alloc _ _ _ _ rfl) H1.out.1 H1.out.2.1 HXW.out rfl L2.out.1 L2.out.2 (by first | decide | simp)).mono ?_; rintro e x2 ⟨rfl, p1, p2, p3⟩; have H2 : Aside0 (Rw wb (rdAt ((([]) ++ (at_ .t [o, o + 1, o + 2])) ++ (at_ .n [o + 3])) (s, vs)).1 x2 ∧ Cs xb T (rdAt ((([]) ++ (at_ .t [o, o + 1, o + 2])) ++ (at_ .n [o + 3])) (s, vs)).2 x2 ∧ Fr (fun i => i = wb ∨ i = xb) w x2) := ⟨by rw [rdAt_append]; exact p1, by rw [rdAt_append]; exact p2, H1.out.2.2.trans p3 fun i hi => .inl hi⟩; clear p1 p2 p3)
    | (go_region_held3 (fun _ => True) (trivial) ((go_at_call 59; refine (nums_rc (alloc_drew _ _) [o + 3] (cs_drew _ _ _ _ rfl) H1.out.1 H1.out.2.1 HXW.out rfl L2.out.1 L2.out.2 (by first | decide | simp)).mono ?_; rintro e x2 ⟨rfl, p1, p2, p3⟩; have H2 : Aside0 (Rw wb (rdAt ((([]) ++ (at_ .t [o, o + 1, o + 2])) ++ (at_ .n [o + 3])) (s, vs)).1 x2 ∧ Cs xb T (rdAt ((([]) ++ (at_ .t [o, o + 1, o + 2])) ++ (at_ .n [o + 3])) (s, vs)).2 x2 ∧ Fr (fun i => i = wb ∨ i = xb) w x2) := ⟨by rw [rdAt_append]; exact p1, by rw [rdAt_append]; exact p2, H1.out.2.2.trans p3 fun i hi => .inl hi⟩; clear p1 p2 p3)))
    | fail
  go_wp2
  go_end0
  have ef : sc_key o = (([]) ++ (at_ .t [o, o + 1, o + 2])) ++ (at_ .n [o + 3]) := by first | rfl | simp [sc_key, List.append_assoc]
  rw [ef]
  exact ⟨rfl, H2.out⟩
def sc_lot : Sc := (at_ .t [0, 1]) ++ (at_ .n [2])
set_option maxHeartbeats 8000000 in
set_option maxRecDepth 100000 in
theorem lot_w {B wb bb xb : Nat} {bs : List UInt8} {T : TypeId} {vs : List Value} {w : World} (h : Wr B wb bb bs w) (hx : Cs xb T vs w) (hT : T ≠ 5) (hT2 : T ≠ 108) (hk : OkAt sc_lot vs) (hl : bs.length + (encAt sc_lot vs).length ≤ 140737488355328) :
    Calls Tryz.prog 57 #[.pointer (some ⟨wb, 0, none⟩), .pointer (some ⟨xb, 0, none⟩)] w (Writ B wb bb (bs ++ encAt sc_lot vs) w) := by
  have H0 : Aside0 (Wr B wb bb (bs ++ encAt ([]) vs) w ∧ Wk B bb w w) := ⟨by simpa [encAt] using h, Wk.refl _ _ _⟩
  have hxb : xb ≠ bb := h.bbT hx hT2
  have HX := Aside0.mk hx
  have HT := Aside0.mk (And.intro hT hT2)
  have HK := Aside0.mk hk
  have HL := Aside0.mk hl
  clear h hx hT hT2 hk hl
  have ES0 : Aside0 (sc_lot = ([] : Sc) ++ (sc_lot)) := ⟨rfl⟩
  go_enter Tryz.func57, Tryz.ntmps57
  have E1 : Aside0 (sc_lot = (([]) ++ (at_ .t [0, 1])) ++ ((at_ .n [2]))) := ⟨by rw [ES0.out]; first | rfl | simp [sc_lot, List.append_assoc]⟩
  have l1 : (bs ++ encAt ([]) vs).length + (encAt (at_ .t [0, 1]) vs).length ≤ 140737488355328 := by
    have z := HL.out
    rw [E1.out, encAt_append, encAt_append] at z
    simp only [List.length_append] at z ⊢
    omega
  have k1 : OkAt (at_ .t [0, 1]) vs := by
    have z := HK.out
    rw [E1.out] at z
    exact z.left.right
  have L1 := Aside0.mk (And.intro l1 k1)
  clear l1 k1
  go_wp2_with (fail)
  first
    | (refine (texts_wc (alloc_below _ _) [0, 1] (cs_alloc _ _ _ _ rfl) H0.out.1 (H0.out.2.cs HX.out HT.out.1 hxb) HT.out.1 HT.out.2 rfl L1.out.2 L1.out.1 (by first | decide | simp)).mono ?_; rintro e x1 ⟨rfl, p1, p2⟩; have H1 : Aside0 (Wr B wb bb (bs ++ encAt (([]) ++ (at_ .t [0, 1])) vs) x1 ∧ Wk B bb w x1) := ⟨by rw [encAt_append, ← List.append_assoc]; exact p1, H0.out.2.trans p2⟩; clear p1 p2)
    | (go_region_held3 (fun _ => True) (trivial) ((go_at_call 58; refine (texts_wc (alloc_drew _ _) [0, 1] (cs_drew _ _ _ _ rfl) H0.out.1 (H0.out.2.cs HX.out HT.out.1 hxb) HT.out.1 HT.out.2 rfl L1.out.2 L1.out.1 (by first | decide | simp)).mono ?_; rintro e x1 ⟨rfl, p1, p2⟩; have H1 : Aside0 (Wr B wb bb (bs ++ encAt (([]) ++ (at_ .t [0, 1])) vs) x1 ∧ Wk B bb w x1) := ⟨by rw [encAt_append, ← List.append_assoc]; exact p1, H0.out.2.trans p2⟩; clear p1 p2)))
    | fail
  have E2 : Aside0 (sc_lot = ((([]) ++ (at_ .t [0, 1])) ++ (at_ .n [2])) ++ (([] : Sc))) := ⟨by rw [E1.out]; first | rfl | simp [sc_lot, List.append_assoc]⟩
  have l2 : (bs ++ encAt (([]) ++ (at_ .t [0, 1])) vs).length + (encAt (at_ .n [2]) vs).length ≤ 140737488355328 := by
    have z := HL.out
    rw [E2.out, encAt_append, encAt_append] at z
    simp only [List.length_append] at z ⊢
    omega
  have k2 : OkAt (at_ .n [2]) vs := by
    have z := HK.out
    rw [E2.out] at z
    exact z.left.right
  have L2 := Aside0.mk (And.intro l2 k2)
  clear l2 k2
  go_wp2_with (fail)
  first
    | (refine (nums_wc (alloc_below _ _) [2] (cs_alloc _ _ _ _ rfl) H1.out.1 (H1.out.2.cs HX.out HT.out.1 hxb) HT.out.1 HT.out.2 rfl L2.out.2 L2.out.1 (by first | decide | simp)).mono ?_; rintro e x2 ⟨rfl, p1, p2⟩; have H2 : Aside0 (Wr B wb bb (bs ++ encAt ((([]) ++ (at_ .t [0, 1])) ++ (at_ .n [2])) vs) x2 ∧ Wk B bb w x2) := ⟨by rw [encAt_append, ← List.append_assoc]; exact p1, H1.out.2.trans p2⟩; clear p1 p2)
    | (go_region_held3 (fun _ => True) (trivial) ((go_at_call 59; refine (nums_wc (alloc_drew _ _) [2] (cs_drew _ _ _ _ rfl) H1.out.1 (H1.out.2.cs HX.out HT.out.1 hxb) HT.out.1 HT.out.2 rfl L2.out.2 L2.out.1 (by first | decide | simp)).mono ?_; rintro e x2 ⟨rfl, p1, p2⟩; have H2 : Aside0 (Wr B wb bb (bs ++ encAt ((([]) ++ (at_ .t [0, 1])) ++ (at_ .n [2])) vs) x2 ∧ Wk B bb w x2) := ⟨by rw [encAt_append, ← List.append_assoc]; exact p1, H1.out.2.trans p2⟩; clear p1 p2)))
    | fail
  go_wp2
  go_end0
  have ef : sc_lot = (([]) ++ (at_ .t [0, 1])) ++ (at_ .n [2]) := by first | rfl | simp [sc_lot, List.append_assoc]
  exact ⟨rfl, by rw [ef]; exact H2.out.1, H2.out.2⟩
set_option maxHeartbeats 8000000 in
set_option maxRecDepth 100000 in
theorem lot_r {wb xb : Nat} {s : Rd} {T : TypeId} {vs : List Value} {w : World} (h : Rw wb s w) (hx : Cs xb T vs w) (hxw : xb ≠ wb) (hj : ∀ x ∈ sc_lot, x.2 < vs.length) (hl : s.D.length ≤ 1000000000000) :
    Calls Tryz.prog 57 #[.pointer (some ⟨wb, 0, none⟩), .pointer (some ⟨xb, 0, none⟩)] w (Redd wb xb T (rdAt sc_lot (s, vs)) w) := by
  have H0 : Aside0 (Rw wb (rdAt ([]) (s, vs)).1 w ∧ Cs xb T (rdAt ([]) (s, vs)).2 w ∧ Fr (fun i => i = wb ∨ i = xb) w w) := ⟨h, hx, Fr.refl _ _⟩
  have HXW := Aside0.mk hxw
  have HJ := Aside0.mk hj
  have HL := Aside0.mk hl
  clear h hx hxw hj hl
  have ES0 : Aside0 (sc_lot = ([] : Sc) ++ (sc_lot)) := ⟨rfl⟩
  go_enter Tryz.func57, Tryz.ntmps57
  have E1 : Aside0 (sc_lot = (([]) ++ (at_ .t [0, 1])) ++ ((at_ .n [2]))) := ⟨by rw [ES0.out]; first | rfl | simp [sc_lot, List.append_assoc]⟩
  have k1 : ∀ x ∈ (at_ .t [0, 1] : Sc), x.2 < (rdAt ([]) (s, vs)).2.length := fun x hx => by
    rw [(rdAt_len _ _).2]
    refine HJ.out x ?_
    rw [E1.out]
    exact List.mem_append_left _ (List.mem_append_right _ hx)
  have j1 : ∀ j ∈ ([0, 1] : List Nat), j < (rdAt ([]) (s, vs)).2.length := fun j hj => k1 (.t, j) (List.mem_map.2 ⟨j, hj, rfl⟩)
  have L1 := Aside0.mk (And.intro j1 (Nat.le_trans (rdAt_len ([]) (s, vs)).1 HL.out))
  clear k1 j1
  go_wp2_with (fail)
  first
    | (refine (texts_rc (alloc_below _ _) [0, 1] (cs_alloc _ _ _ _ rfl) H0.out.1 H0.out.2.1 HXW.out rfl L1.out.1 L1.out.2 (by first | decide | simp)).mono ?_; rintro e x1 ⟨rfl, p1, p2, p3⟩; have H1 : Aside0 (Rw wb (rdAt (([]) ++ (at_ .t [0, 1])) (s, vs)).1 x1 ∧ Cs xb T (rdAt (([]) ++ (at_ .t [0, 1])) (s, vs)).2 x1 ∧ Fr (fun i => i = wb ∨ i = xb) w x1) := ⟨by rw [rdAt_append]; exact p1, by rw [rdAt_append]; exact p2, H0.out.2.2.trans p3 fun i hi => .inl hi⟩; clear p1 p2 p3)
    | (go_region_held3 (fun _ => True) (trivial) ((go_at_call 58; refine (texts_rc (alloc_drew _ _) [0, 1] (cs_drew _ _ _ _ rfl) H0.out.1 H0.out.2.1 HXW.out rfl L1.out.1 L1.out.2 (by first | decide | simp)).mono ?_; rintro e x1 ⟨rfl, p1, p2, p3⟩; have H1 : Aside0 (Rw wb (rdAt (([]) ++ (at_ .t [0, 1])) (s, vs)).1 x1 ∧ Cs xb T (rdAt (([]) ++ (at_ .t [0, 1])) (s, vs)).2 x1 ∧ Fr (fun i => i = wb ∨ i = xb) w x1) := ⟨by rw [rdAt_append]; exact p1, by rw [rdAt_append]; exact p2, H0.out.2.2.trans p3 fun i hi => .inl hi⟩; clear p1 p2 p3)))
    | fail
  have E2 : Aside0 (sc_lot = ((([]) ++ (at_ .t [0, 1])) ++ (at_ .n [2])) ++ (([] : Sc))) := ⟨by rw [E1.out]; first | rfl | simp [sc_lot, List.append_assoc]⟩
  have k2 : ∀ x ∈ (at_ .n [2] : Sc), x.2 < (rdAt (([]) ++ (at_ .t [0, 1])) (s, vs)).2.length := fun x hx => by
    rw [(rdAt_len _ _).2]
    refine HJ.out x ?_
    rw [E2.out]
    exact List.mem_append_left _ (List.mem_append_right _ hx)
  have j2 : ∀ j ∈ ([2] : List Nat), j < (rdAt (([]) ++ (at_ .t [0, 1])) (s, vs)).2.length := fun j hj => k2 (.n, j) (List.mem_map.2 ⟨j, hj, rfl⟩)
  have L2 := Aside0.mk (And.intro j2 (Nat.le_trans (rdAt_len (([]) ++ (at_ .t [0, 1])) (s, vs)).1 HL.out))
  clear k2 j2
  go_wp2_with (fail)
  first
    | (refine (nums_rc (alloc_below _ _) [2] (cs_alloc _ _ _ _ rfl) H1.out.1 H1.out.2.1 HXW.out rfl L2.out.1 L2.out.2 (by first | decide | simp)).mono ?_; rintro e x2 ⟨rfl, p1, p2, p3⟩; have H2 : Aside0 (Rw wb (rdAt ((([]) ++ (at_ .t [0, 1])) ++ (at_ .n [2])) (s, vs)).1 x2 ∧ Cs xb T (rdAt ((([]) ++ (at_ .t [0, 1])) ++ (at_ .n [2])) (s, vs)).2 x2 ∧ Fr (fun i => i = wb ∨ i = xb) w x2) := ⟨by rw [rdAt_append]; exact p1, by rw [rdAt_append]; exact p2, H1.out.2.2.trans p3 fun i hi => .inl hi⟩; clear p1 p2 p3)
    | (go_region_held3 (fun _ => True) (trivial) ((go_at_call 59; refine (nums_rc (alloc_drew _ _) [2] (cs_drew _ _ _ _ rfl) H1.out.1 H1.out.2.1 HXW.out rfl L2.out.1 L2.out.2 (by first | decide | simp)).mono ?_; rintro e x2 ⟨rfl, p1, p2, p3⟩; have H2 : Aside0 (Rw wb (rdAt ((([]) ++ (at_ .t [0, 1])) ++ (at_ .n [2])) (s, vs)).1 x2 ∧ Cs xb T (rdAt ((([]) ++ (at_ .t [0, 1])) ++ (at_ .n [2])) (s, vs)).2 x2 ∧ Fr (fun i => i = wb ∨ i = xb) w x2) := ⟨by rw [rdAt_append]; exact p1, by rw [rdAt_append]; exact p2, H1.out.2.2.trans p3 fun i hi => .inl hi⟩; clear p1 p2 p3)))
    | fail
  go_wp2
  go_end0
  have ef : sc_lot = (([]) ++ (at_ .t [0, 1])) ++ (at_ .n [2]) := by first | rfl | simp [sc_lot, List.append_assoc]
  rw [ef]
  exact ⟨rfl, H2.out⟩
def sc_zone : Sc := (at_ .t [0, 1])
set_option maxHeartbeats 8000000 in
set_option maxRecDepth 100000 in
theorem zone_w {B wb bb xb : Nat} {bs : List UInt8} {T : TypeId} {vs : List Value} {w : World} (h : Wr B wb bb bs w) (hx : Cs xb T vs w) (hT : T ≠ 5) (hT2 : T ≠ 108) (hk : OkAt sc_zone vs) (hl : bs.length + (encAt sc_zone vs).length ≤ 140737488355328) :
    Calls Tryz.prog 61 #[.pointer (some ⟨wb, 0, none⟩), .pointer (some ⟨xb, 0, none⟩)] w (Writ B wb bb (bs ++ encAt sc_zone vs) w) := by
  have H0 : Aside0 (Wr B wb bb (bs ++ encAt ([]) vs) w ∧ Wk B bb w w) := ⟨by simpa [encAt] using h, Wk.refl _ _ _⟩
  have hxb : xb ≠ bb := h.bbT hx hT2
  have HX := Aside0.mk hx
  have HT := Aside0.mk (And.intro hT hT2)
  have HK := Aside0.mk hk
  have HL := Aside0.mk hl
  clear h hx hT hT2 hk hl
  have ES0 : Aside0 (sc_zone = ([] : Sc) ++ (sc_zone)) := ⟨rfl⟩
  go_enter Tryz.func61, Tryz.ntmps61
  have E1 : Aside0 (sc_zone = (([]) ++ (at_ .t [0, 1])) ++ (([] : Sc))) := ⟨by rw [ES0.out]; first | rfl | simp [sc_zone, List.append_assoc]⟩
  have l1 : (bs ++ encAt ([]) vs).length + (encAt (at_ .t [0, 1]) vs).length ≤ 140737488355328 := by
    have z := HL.out
    rw [E1.out, encAt_append, encAt_append] at z
    simp only [List.length_append] at z ⊢
    omega
  have k1 : OkAt (at_ .t [0, 1]) vs := by
    have z := HK.out
    rw [E1.out] at z
    exact z.left.right
  have L1 := Aside0.mk (And.intro l1 k1)
  clear l1 k1
  go_wp2_with (fail)
  first
    | (refine (texts_wc (alloc_below _ _) [0, 1] (cs_alloc _ _ _ _ rfl) H0.out.1 (H0.out.2.cs HX.out HT.out.1 hxb) HT.out.1 HT.out.2 rfl L1.out.2 L1.out.1 (by first | decide | simp)).mono ?_; rintro e x1 ⟨rfl, p1, p2⟩; have H1 : Aside0 (Wr B wb bb (bs ++ encAt (([]) ++ (at_ .t [0, 1])) vs) x1 ∧ Wk B bb w x1) := ⟨by rw [encAt_append, ← List.append_assoc]; exact p1, H0.out.2.trans p2⟩; clear p1 p2)
    | (go_region_held3 (fun _ => True) (trivial) ((go_at_call 58; refine (texts_wc (alloc_drew _ _) [0, 1] (cs_drew _ _ _ _ rfl) H0.out.1 (H0.out.2.cs HX.out HT.out.1 hxb) HT.out.1 HT.out.2 rfl L1.out.2 L1.out.1 (by first | decide | simp)).mono ?_; rintro e x1 ⟨rfl, p1, p2⟩; have H1 : Aside0 (Wr B wb bb (bs ++ encAt (([]) ++ (at_ .t [0, 1])) vs) x1 ∧ Wk B bb w x1) := ⟨by rw [encAt_append, ← List.append_assoc]; exact p1, H0.out.2.trans p2⟩; clear p1 p2)))
    | fail
  go_wp2
  go_end0
  have ef : sc_zone = ([]) ++ (at_ .t [0, 1]) := by first | rfl | simp [sc_zone, List.append_assoc]
  exact ⟨rfl, by rw [ef]; exact H1.out.1, H1.out.2⟩
set_option maxHeartbeats 8000000 in
set_option maxRecDepth 100000 in
theorem zone_r {wb xb : Nat} {s : Rd} {T : TypeId} {vs : List Value} {w : World} (h : Rw wb s w) (hx : Cs xb T vs w) (hxw : xb ≠ wb) (hj : ∀ x ∈ sc_zone, x.2 < vs.length) (hl : s.D.length ≤ 1000000000000) :
    Calls Tryz.prog 61 #[.pointer (some ⟨wb, 0, none⟩), .pointer (some ⟨xb, 0, none⟩)] w (Redd wb xb T (rdAt sc_zone (s, vs)) w) := by
  have H0 : Aside0 (Rw wb (rdAt ([]) (s, vs)).1 w ∧ Cs xb T (rdAt ([]) (s, vs)).2 w ∧ Fr (fun i => i = wb ∨ i = xb) w w) := ⟨h, hx, Fr.refl _ _⟩
  have HXW := Aside0.mk hxw
  have HJ := Aside0.mk hj
  have HL := Aside0.mk hl
  clear h hx hxw hj hl
  have ES0 : Aside0 (sc_zone = ([] : Sc) ++ (sc_zone)) := ⟨rfl⟩
  go_enter Tryz.func61, Tryz.ntmps61
  have E1 : Aside0 (sc_zone = (([]) ++ (at_ .t [0, 1])) ++ (([] : Sc))) := ⟨by rw [ES0.out]; first | rfl | simp [sc_zone, List.append_assoc]⟩
  have k1 : ∀ x ∈ (at_ .t [0, 1] : Sc), x.2 < (rdAt ([]) (s, vs)).2.length := fun x hx => by
    rw [(rdAt_len _ _).2]
    refine HJ.out x ?_
    rw [E1.out]
    exact List.mem_append_left _ (List.mem_append_right _ hx)
  have j1 : ∀ j ∈ ([0, 1] : List Nat), j < (rdAt ([]) (s, vs)).2.length := fun j hj => k1 (.t, j) (List.mem_map.2 ⟨j, hj, rfl⟩)
  have L1 := Aside0.mk (And.intro j1 (Nat.le_trans (rdAt_len ([]) (s, vs)).1 HL.out))
  clear k1 j1
  go_wp2_with (fail)
  first
    | (refine (texts_rc (alloc_below _ _) [0, 1] (cs_alloc _ _ _ _ rfl) H0.out.1 H0.out.2.1 HXW.out rfl L1.out.1 L1.out.2 (by first | decide | simp)).mono ?_; rintro e x1 ⟨rfl, p1, p2, p3⟩; have H1 : Aside0 (Rw wb (rdAt (([]) ++ (at_ .t [0, 1])) (s, vs)).1 x1 ∧ Cs xb T (rdAt (([]) ++ (at_ .t [0, 1])) (s, vs)).2 x1 ∧ Fr (fun i => i = wb ∨ i = xb) w x1) := ⟨by rw [rdAt_append]; exact p1, by rw [rdAt_append]; exact p2, H0.out.2.2.trans p3 fun i hi => .inl hi⟩; clear p1 p2 p3)
    | (go_region_held3 (fun _ => True) (trivial) ((go_at_call 58; refine (texts_rc (alloc_drew _ _) [0, 1] (cs_drew _ _ _ _ rfl) H0.out.1 H0.out.2.1 HXW.out rfl L1.out.1 L1.out.2 (by first | decide | simp)).mono ?_; rintro e x1 ⟨rfl, p1, p2, p3⟩; have H1 : Aside0 (Rw wb (rdAt (([]) ++ (at_ .t [0, 1])) (s, vs)).1 x1 ∧ Cs xb T (rdAt (([]) ++ (at_ .t [0, 1])) (s, vs)).2 x1 ∧ Fr (fun i => i = wb ∨ i = xb) w x1) := ⟨by rw [rdAt_append]; exact p1, by rw [rdAt_append]; exact p2, H0.out.2.2.trans p3 fun i hi => .inl hi⟩; clear p1 p2 p3)))
    | fail
  go_wp2
  go_end0
  have ef : sc_zone = ([]) ++ (at_ .t [0, 1]) := by first | rfl | simp [sc_zone, List.append_assoc]
  rw [ef]
  exact ⟨rfl, H1.out⟩
def sc_bin : Sc := (at_ .t [0, 1]) ++ (at_ .n [2, 3, 4, 5, 6]) ++ (at_ .b [7])
set_option maxHeartbeats 8000000 in
set_option maxRecDepth 100000 in
theorem bin_w {B wb bb xb : Nat} {bs : List UInt8} {T : TypeId} {vs : List Value} {w : World} (h : Wr B wb bb bs w) (hx : Cs xb T vs w) (hT : T ≠ 5) (hT2 : T ≠ 108) (hk : OkAt sc_bin vs) (hl : bs.length + (encAt sc_bin vs).length ≤ 140737488355328) :
    Calls Tryz.prog 63 #[.pointer (some ⟨wb, 0, none⟩), .pointer (some ⟨xb, 0, none⟩)] w (Writ B wb bb (bs ++ encAt sc_bin vs) w) := by
  have H0 : Aside0 (Wr B wb bb (bs ++ encAt ([]) vs) w ∧ Wk B bb w w) := ⟨by simpa [encAt] using h, Wk.refl _ _ _⟩
  have hxb : xb ≠ bb := h.bbT hx hT2
  have HX := Aside0.mk hx
  have HT := Aside0.mk (And.intro hT hT2)
  have HK := Aside0.mk hk
  have HL := Aside0.mk hl
  clear h hx hT hT2 hk hl
  have ES0 : Aside0 (sc_bin = ([] : Sc) ++ (sc_bin)) := ⟨rfl⟩
  go_enter Tryz.func63, Tryz.ntmps63
  have E1 : Aside0 (sc_bin = (([]) ++ (at_ .t [0, 1])) ++ ((at_ .n [2, 3, 4, 5, 6]) ++ (at_ .b [7]))) := ⟨by rw [ES0.out]; first | rfl | simp [sc_bin, List.append_assoc]⟩
  have l1 : (bs ++ encAt ([]) vs).length + (encAt (at_ .t [0, 1]) vs).length ≤ 140737488355328 := by
    have z := HL.out
    rw [E1.out, encAt_append, encAt_append] at z
    simp only [List.length_append] at z ⊢
    omega
  have k1 : OkAt (at_ .t [0, 1]) vs := by
    have z := HK.out
    rw [E1.out] at z
    exact z.left.right
  have L1 := Aside0.mk (And.intro l1 k1)
  clear l1 k1
  go_wp2_with (fail)
  first
    | (refine (texts_wc (alloc_below _ _) [0, 1] (cs_alloc _ _ _ _ rfl) H0.out.1 (H0.out.2.cs HX.out HT.out.1 hxb) HT.out.1 HT.out.2 rfl L1.out.2 L1.out.1 (by first | decide | simp)).mono ?_; rintro e x1 ⟨rfl, p1, p2⟩; have H1 : Aside0 (Wr B wb bb (bs ++ encAt (([]) ++ (at_ .t [0, 1])) vs) x1 ∧ Wk B bb w x1) := ⟨by rw [encAt_append, ← List.append_assoc]; exact p1, H0.out.2.trans p2⟩; clear p1 p2)
    | (go_region_held3 (fun _ => True) (trivial) ((go_at_call 58; refine (texts_wc (alloc_drew _ _) [0, 1] (cs_drew _ _ _ _ rfl) H0.out.1 (H0.out.2.cs HX.out HT.out.1 hxb) HT.out.1 HT.out.2 rfl L1.out.2 L1.out.1 (by first | decide | simp)).mono ?_; rintro e x1 ⟨rfl, p1, p2⟩; have H1 : Aside0 (Wr B wb bb (bs ++ encAt (([]) ++ (at_ .t [0, 1])) vs) x1 ∧ Wk B bb w x1) := ⟨by rw [encAt_append, ← List.append_assoc]; exact p1, H0.out.2.trans p2⟩; clear p1 p2)))
    | fail
  have E2 : Aside0 (sc_bin = ((([]) ++ (at_ .t [0, 1])) ++ (at_ .n [2, 3, 4, 5, 6])) ++ ((at_ .b [7]))) := ⟨by rw [E1.out]; first | rfl | simp [sc_bin, List.append_assoc]⟩
  have l2 : (bs ++ encAt (([]) ++ (at_ .t [0, 1])) vs).length + (encAt (at_ .n [2, 3, 4, 5, 6]) vs).length ≤ 140737488355328 := by
    have z := HL.out
    rw [E2.out, encAt_append, encAt_append] at z
    simp only [List.length_append] at z ⊢
    omega
  have k2 : OkAt (at_ .n [2, 3, 4, 5, 6]) vs := by
    have z := HK.out
    rw [E2.out] at z
    exact z.left.right
  have L2 := Aside0.mk (And.intro l2 k2)
  clear l2 k2
  go_wp2_with (fail)
  first
    | (refine (nums_wc (alloc_below _ _) [2, 3, 4, 5, 6] (cs_alloc _ _ _ _ rfl) H1.out.1 (H1.out.2.cs HX.out HT.out.1 hxb) HT.out.1 HT.out.2 rfl L2.out.2 L2.out.1 (by first | decide | simp)).mono ?_; rintro e x2 ⟨rfl, p1, p2⟩; have H2 : Aside0 (Wr B wb bb (bs ++ encAt ((([]) ++ (at_ .t [0, 1])) ++ (at_ .n [2, 3, 4, 5, 6])) vs) x2 ∧ Wk B bb w x2) := ⟨by rw [encAt_append, ← List.append_assoc]; exact p1, H1.out.2.trans p2⟩; clear p1 p2)
    | (go_region_held3 (fun _ => True) (trivial) ((go_at_call 59; refine (nums_wc (alloc_drew _ _) [2, 3, 4, 5, 6] (cs_drew _ _ _ _ rfl) H1.out.1 (H1.out.2.cs HX.out HT.out.1 hxb) HT.out.1 HT.out.2 rfl L2.out.2 L2.out.1 (by first | decide | simp)).mono ?_; rintro e x2 ⟨rfl, p1, p2⟩; have H2 : Aside0 (Wr B wb bb (bs ++ encAt ((([]) ++ (at_ .t [0, 1])) ++ (at_ .n [2, 3, 4, 5, 6])) vs) x2 ∧ Wk B bb w x2) := ⟨by rw [encAt_append, ← List.append_assoc]; exact p1, H1.out.2.trans p2⟩; clear p1 p2)))
    | fail
  have E3 : Aside0 (sc_bin = (((([]) ++ (at_ .t [0, 1])) ++ (at_ .n [2, 3, 4, 5, 6])) ++ (at_ .b [7])) ++ (([] : Sc))) := ⟨by rw [E2.out]; first | rfl | simp [sc_bin, List.append_assoc]⟩
  have l3 : (bs ++ encAt ((([]) ++ (at_ .t [0, 1])) ++ (at_ .n [2, 3, 4, 5, 6])) vs).length + (encAt (at_ .b [7]) vs).length ≤ 140737488355328 := by
    have z := HL.out
    rw [E3.out, encAt_append, encAt_append] at z
    simp only [List.length_append] at z ⊢
    omega
  have k3 : OkAt (at_ .b [7]) vs := by
    have z := HK.out
    rw [E3.out] at z
    exact z.left.right
  have L3 := Aside0.mk (And.intro l3 k3)
  clear l3 k3
  go_wp2_with (fail)
  first
    | (refine (truths_wc (alloc_below _ _) [7] (cs_alloc _ _ _ _ rfl) H2.out.1 (H2.out.2.cs HX.out HT.out.1 hxb) HT.out.1 HT.out.2 rfl L3.out.2 L3.out.1 (by first | decide | simp)).mono ?_; rintro e x3 ⟨rfl, p1, p2⟩; have H3 : Aside0 (Wr B wb bb (bs ++ encAt (((([]) ++ (at_ .t [0, 1])) ++ (at_ .n [2, 3, 4, 5, 6])) ++ (at_ .b [7])) vs) x3 ∧ Wk B bb w x3) := ⟨by rw [encAt_append, ← List.append_assoc]; exact p1, H2.out.2.trans p2⟩; clear p1 p2)
    | (go_region_held3 (fun _ => True) (trivial) ((go_at_call 72; refine (truths_wc (alloc_drew _ _) [7] (cs_drew _ _ _ _ rfl) H2.out.1 (H2.out.2.cs HX.out HT.out.1 hxb) HT.out.1 HT.out.2 rfl L3.out.2 L3.out.1 (by first | decide | simp)).mono ?_; rintro e x3 ⟨rfl, p1, p2⟩; have H3 : Aside0 (Wr B wb bb (bs ++ encAt (((([]) ++ (at_ .t [0, 1])) ++ (at_ .n [2, 3, 4, 5, 6])) ++ (at_ .b [7])) vs) x3 ∧ Wk B bb w x3) := ⟨by rw [encAt_append, ← List.append_assoc]; exact p1, H2.out.2.trans p2⟩; clear p1 p2)))
    | fail
  go_wp2
  go_end0
  have ef : sc_bin = ((([]) ++ (at_ .t [0, 1])) ++ (at_ .n [2, 3, 4, 5, 6])) ++ (at_ .b [7]) := by first | rfl | simp [sc_bin, List.append_assoc]
  exact ⟨rfl, by rw [ef]; exact H3.out.1, H3.out.2⟩
set_option maxHeartbeats 8000000 in
set_option maxRecDepth 100000 in
theorem bin_r {wb xb : Nat} {s : Rd} {T : TypeId} {vs : List Value} {w : World} (h : Rw wb s w) (hx : Cs xb T vs w) (hxw : xb ≠ wb) (hj : ∀ x ∈ sc_bin, x.2 < vs.length) (hl : s.D.length ≤ 1000000000000) :
    Calls Tryz.prog 63 #[.pointer (some ⟨wb, 0, none⟩), .pointer (some ⟨xb, 0, none⟩)] w (Redd wb xb T (rdAt sc_bin (s, vs)) w) := by
  have H0 : Aside0 (Rw wb (rdAt ([]) (s, vs)).1 w ∧ Cs xb T (rdAt ([]) (s, vs)).2 w ∧ Fr (fun i => i = wb ∨ i = xb) w w) := ⟨h, hx, Fr.refl _ _⟩
  have HXW := Aside0.mk hxw
  have HJ := Aside0.mk hj
  have HL := Aside0.mk hl
  clear h hx hxw hj hl
  have ES0 : Aside0 (sc_bin = ([] : Sc) ++ (sc_bin)) := ⟨rfl⟩
  go_enter Tryz.func63, Tryz.ntmps63
  have E1 : Aside0 (sc_bin = (([]) ++ (at_ .t [0, 1])) ++ ((at_ .n [2, 3, 4, 5, 6]) ++ (at_ .b [7]))) := ⟨by rw [ES0.out]; first | rfl | simp [sc_bin, List.append_assoc]⟩
  have k1 : ∀ x ∈ (at_ .t [0, 1] : Sc), x.2 < (rdAt ([]) (s, vs)).2.length := fun x hx => by
    rw [(rdAt_len _ _).2]
    refine HJ.out x ?_
    rw [E1.out]
    exact List.mem_append_left _ (List.mem_append_right _ hx)
  have j1 : ∀ j ∈ ([0, 1] : List Nat), j < (rdAt ([]) (s, vs)).2.length := fun j hj => k1 (.t, j) (List.mem_map.2 ⟨j, hj, rfl⟩)
  have L1 := Aside0.mk (And.intro j1 (Nat.le_trans (rdAt_len ([]) (s, vs)).1 HL.out))
  clear k1 j1
  go_wp2_with (fail)
  first
    | (refine (texts_rc (alloc_below _ _) [0, 1] (cs_alloc _ _ _ _ rfl) H0.out.1 H0.out.2.1 HXW.out rfl L1.out.1 L1.out.2 (by first | decide | simp)).mono ?_; rintro e x1 ⟨rfl, p1, p2, p3⟩; have H1 : Aside0 (Rw wb (rdAt (([]) ++ (at_ .t [0, 1])) (s, vs)).1 x1 ∧ Cs xb T (rdAt (([]) ++ (at_ .t [0, 1])) (s, vs)).2 x1 ∧ Fr (fun i => i = wb ∨ i = xb) w x1) := ⟨by rw [rdAt_append]; exact p1, by rw [rdAt_append]; exact p2, H0.out.2.2.trans p3 fun i hi => .inl hi⟩; clear p1 p2 p3)
    | (go_region_held3 (fun _ => True) (trivial) ((go_at_call 58; refine (texts_rc (alloc_drew _ _) [0, 1] (cs_drew _ _ _ _ rfl) H0.out.1 H0.out.2.1 HXW.out rfl L1.out.1 L1.out.2 (by first | decide | simp)).mono ?_; rintro e x1 ⟨rfl, p1, p2, p3⟩; have H1 : Aside0 (Rw wb (rdAt (([]) ++ (at_ .t [0, 1])) (s, vs)).1 x1 ∧ Cs xb T (rdAt (([]) ++ (at_ .t [0, 1])) (s, vs)).2 x1 ∧ Fr (fun i => i = wb ∨ i = xb) w x1) := ⟨by rw [rdAt_append]; exact p1, by rw [rdAt_append]; exact p2, H0.out.2.2.trans p3 fun i hi => .inl hi⟩; clear p1 p2 p3)))
    | fail
  have E2 : Aside0 (sc_bin = ((([]) ++ (at_ .t [0, 1])) ++ (at_ .n [2, 3, 4, 5, 6])) ++ ((at_ .b [7]))) := ⟨by rw [E1.out]; first | rfl | simp [sc_bin, List.append_assoc]⟩
  have k2 : ∀ x ∈ (at_ .n [2, 3, 4, 5, 6] : Sc), x.2 < (rdAt (([]) ++ (at_ .t [0, 1])) (s, vs)).2.length := fun x hx => by
    rw [(rdAt_len _ _).2]
    refine HJ.out x ?_
    rw [E2.out]
    exact List.mem_append_left _ (List.mem_append_right _ hx)
  have j2 : ∀ j ∈ ([2, 3, 4, 5, 6] : List Nat), j < (rdAt (([]) ++ (at_ .t [0, 1])) (s, vs)).2.length := fun j hj => k2 (.n, j) (List.mem_map.2 ⟨j, hj, rfl⟩)
  have L2 := Aside0.mk (And.intro j2 (Nat.le_trans (rdAt_len (([]) ++ (at_ .t [0, 1])) (s, vs)).1 HL.out))
  clear k2 j2
  go_wp2_with (fail)
  first
    | (refine (nums_rc (alloc_below _ _) [2, 3, 4, 5, 6] (cs_alloc _ _ _ _ rfl) H1.out.1 H1.out.2.1 HXW.out rfl L2.out.1 L2.out.2 (by first | decide | simp)).mono ?_; rintro e x2 ⟨rfl, p1, p2, p3⟩; have H2 : Aside0 (Rw wb (rdAt ((([]) ++ (at_ .t [0, 1])) ++ (at_ .n [2, 3, 4, 5, 6])) (s, vs)).1 x2 ∧ Cs xb T (rdAt ((([]) ++ (at_ .t [0, 1])) ++ (at_ .n [2, 3, 4, 5, 6])) (s, vs)).2 x2 ∧ Fr (fun i => i = wb ∨ i = xb) w x2) := ⟨by rw [rdAt_append]; exact p1, by rw [rdAt_append]; exact p2, H1.out.2.2.trans p3 fun i hi => .inl hi⟩; clear p1 p2 p3)
    | (go_region_held3 (fun _ => True) (trivial) ((go_at_call 59; refine (nums_rc (alloc_drew _ _) [2, 3, 4, 5, 6] (cs_drew _ _ _ _ rfl) H1.out.1 H1.out.2.1 HXW.out rfl L2.out.1 L2.out.2 (by first | decide | simp)).mono ?_; rintro e x2 ⟨rfl, p1, p2, p3⟩; have H2 : Aside0 (Rw wb (rdAt ((([]) ++ (at_ .t [0, 1])) ++ (at_ .n [2, 3, 4, 5, 6])) (s, vs)).1 x2 ∧ Cs xb T (rdAt ((([]) ++ (at_ .t [0, 1])) ++ (at_ .n [2, 3, 4, 5, 6])) (s, vs)).2 x2 ∧ Fr (fun i => i = wb ∨ i = xb) w x2) := ⟨by rw [rdAt_append]; exact p1, by rw [rdAt_append]; exact p2, H1.out.2.2.trans p3 fun i hi => .inl hi⟩; clear p1 p2 p3)))
    | fail
  have E3 : Aside0 (sc_bin = (((([]) ++ (at_ .t [0, 1])) ++ (at_ .n [2, 3, 4, 5, 6])) ++ (at_ .b [7])) ++ (([] : Sc))) := ⟨by rw [E2.out]; first | rfl | simp [sc_bin, List.append_assoc]⟩
  have k3 : ∀ x ∈ (at_ .b [7] : Sc), x.2 < (rdAt ((([]) ++ (at_ .t [0, 1])) ++ (at_ .n [2, 3, 4, 5, 6])) (s, vs)).2.length := fun x hx => by
    rw [(rdAt_len _ _).2]
    refine HJ.out x ?_
    rw [E3.out]
    exact List.mem_append_left _ (List.mem_append_right _ hx)
  have j3 : ∀ j ∈ ([7] : List Nat), j < (rdAt ((([]) ++ (at_ .t [0, 1])) ++ (at_ .n [2, 3, 4, 5, 6])) (s, vs)).2.length := fun j hj => k3 (.b, j) (List.mem_map.2 ⟨j, hj, rfl⟩)
  have L3 := Aside0.mk (And.intro j3 (Nat.le_trans (rdAt_len ((([]) ++ (at_ .t [0, 1])) ++ (at_ .n [2, 3, 4, 5, 6])) (s, vs)).1 HL.out))
  clear k3 j3
  go_wp2_with (fail)
  first
    | (refine (truths_rc (alloc_below _ _) [7] (cs_alloc _ _ _ _ rfl) H2.out.1 H2.out.2.1 HXW.out rfl L3.out.1 L3.out.2 (by first | decide | simp)).mono ?_; rintro e x3 ⟨rfl, p1, p2, p3⟩; have H3 : Aside0 (Rw wb (rdAt (((([]) ++ (at_ .t [0, 1])) ++ (at_ .n [2, 3, 4, 5, 6])) ++ (at_ .b [7])) (s, vs)).1 x3 ∧ Cs xb T (rdAt (((([]) ++ (at_ .t [0, 1])) ++ (at_ .n [2, 3, 4, 5, 6])) ++ (at_ .b [7])) (s, vs)).2 x3 ∧ Fr (fun i => i = wb ∨ i = xb) w x3) := ⟨by rw [rdAt_append]; exact p1, by rw [rdAt_append]; exact p2, H2.out.2.2.trans p3 fun i hi => .inl hi⟩; clear p1 p2 p3)
    | (go_region_held3 (fun _ => True) (trivial) ((go_at_call 72; refine (truths_rc (alloc_drew _ _) [7] (cs_drew _ _ _ _ rfl) H2.out.1 H2.out.2.1 HXW.out rfl L3.out.1 L3.out.2 (by first | decide | simp)).mono ?_; rintro e x3 ⟨rfl, p1, p2, p3⟩; have H3 : Aside0 (Rw wb (rdAt (((([]) ++ (at_ .t [0, 1])) ++ (at_ .n [2, 3, 4, 5, 6])) ++ (at_ .b [7])) (s, vs)).1 x3 ∧ Cs xb T (rdAt (((([]) ++ (at_ .t [0, 1])) ++ (at_ .n [2, 3, 4, 5, 6])) ++ (at_ .b [7])) (s, vs)).2 x3 ∧ Fr (fun i => i = wb ∨ i = xb) w x3) := ⟨by rw [rdAt_append]; exact p1, by rw [rdAt_append]; exact p2, H2.out.2.2.trans p3 fun i hi => .inl hi⟩; clear p1 p2 p3)))
    | fail
  go_wp2
  go_end0
  have ef : sc_bin = ((([]) ++ (at_ .t [0, 1])) ++ (at_ .n [2, 3, 4, 5, 6])) ++ (at_ .b [7]) := by first | rfl | simp [sc_bin, List.append_assoc]
  rw [ef]
  exact ⟨rfl, H3.out⟩
def sc_quant : Sc := (sc_key (0)) ++ (at_ .n [4, 5])
set_option maxHeartbeats 8000000 in
set_option maxRecDepth 100000 in
theorem quant_w {B wb bb xb : Nat} {bs : List UInt8} {T : TypeId} {vs : List Value} {w : World} (h : Wr B wb bb bs w) (hx : Cs xb T vs w) (hT : T ≠ 5) (hT2 : T ≠ 108) (hk : OkAt sc_quant vs) (hl : bs.length + (encAt sc_quant vs).length ≤ 140737488355328) :
    Calls Tryz.prog 65 #[.pointer (some ⟨wb, 0, none⟩), .pointer (some ⟨xb, 0, none⟩)] w (Writ B wb bb (bs ++ encAt sc_quant vs) w) := by
  have H0 : Aside0 (Wr B wb bb (bs ++ encAt ([]) vs) w ∧ Wk B bb w w) := ⟨by simpa [encAt] using h, Wk.refl _ _ _⟩
  have hxb : xb ≠ bb := h.bbT hx hT2
  have HX := Aside0.mk hx
  have HT := Aside0.mk (And.intro hT hT2)
  have HK := Aside0.mk hk
  have HL := Aside0.mk hl
  clear h hx hT hT2 hk hl
  have ES0 : Aside0 (sc_quant = ([] : Sc) ++ (sc_quant)) := ⟨rfl⟩
  go_enter Tryz.func65, Tryz.ntmps65
  have E1 : Aside0 (sc_quant = (([]) ++ (sc_key (0))) ++ ((at_ .n [4, 5]))) := ⟨by rw [ES0.out]; first | rfl | simp [sc_quant, List.append_assoc]⟩
  have l1 : (bs ++ encAt ([]) vs).length + (encAt (sc_key (0)) vs).length ≤ 140737488355328 := by
    have z := HL.out
    rw [E1.out, encAt_append, encAt_append] at z
    simp only [List.length_append] at z ⊢
    omega
  have k1 : OkAt (sc_key (0)) vs := by
    have z := HK.out
    rw [E1.out] at z
    exact z.left.right
  have L1 := Aside0.mk (And.intro l1 k1)
  clear l1 k1
  go_wp2_with (fail)
  first
    | (refine (key_w _ _ _ _ (0) _ _ _ _ H0.out.1 (H0.out.2.cs HX.out HT.out.1 hxb) HT.out.1 HT.out.2 L1.out.2 L1.out.1).mono ?_; rintro e x1 ⟨rfl, p1, p2⟩; have H1 : Aside0 (Wr B wb bb (bs ++ encAt (([]) ++ (sc_key (0))) vs) x1 ∧ Wk B bb w x1) := ⟨by rw [encAt_append, ← List.append_assoc]; exact p1, H0.out.2.trans p2⟩; clear p1 p2)
    | (go_region_held3 (fun _ => True) (trivial) ((go_at_call 66; refine (key_w _ _ _ _ (0) _ _ _ _ H0.out.1 (H0.out.2.cs HX.out HT.out.1 hxb) HT.out.1 HT.out.2 L1.out.2 L1.out.1).mono ?_; rintro e x1 ⟨rfl, p1, p2⟩; have H1 : Aside0 (Wr B wb bb (bs ++ encAt (([]) ++ (sc_key (0))) vs) x1 ∧ Wk B bb w x1) := ⟨by rw [encAt_append, ← List.append_assoc]; exact p1, H0.out.2.trans p2⟩; clear p1 p2)))
    | fail
  have E2 : Aside0 (sc_quant = ((([]) ++ (sc_key (0))) ++ (at_ .n [4, 5])) ++ (([] : Sc))) := ⟨by rw [E1.out]; first | rfl | simp [sc_quant, List.append_assoc]⟩
  have l2 : (bs ++ encAt (([]) ++ (sc_key (0))) vs).length + (encAt (at_ .n [4, 5]) vs).length ≤ 140737488355328 := by
    have z := HL.out
    rw [E2.out, encAt_append, encAt_append] at z
    simp only [List.length_append] at z ⊢
    omega
  have k2 : OkAt (at_ .n [4, 5]) vs := by
    have z := HK.out
    rw [E2.out] at z
    exact z.left.right
  have L2 := Aside0.mk (And.intro l2 k2)
  clear l2 k2
  go_wp2_with (fail)
  first
    | (refine (nums_wc (alloc_below _ _) [4, 5] (cs_alloc _ _ _ _ rfl) H1.out.1 (H1.out.2.cs HX.out HT.out.1 hxb) HT.out.1 HT.out.2 rfl L2.out.2 L2.out.1 (by first | decide | simp)).mono ?_; rintro e x2 ⟨rfl, p1, p2⟩; have H2 : Aside0 (Wr B wb bb (bs ++ encAt ((([]) ++ (sc_key (0))) ++ (at_ .n [4, 5])) vs) x2 ∧ Wk B bb w x2) := ⟨by rw [encAt_append, ← List.append_assoc]; exact p1, H1.out.2.trans p2⟩; clear p1 p2)
    | (go_region_held3 (fun _ => True) (trivial) ((go_at_call 59; refine (nums_wc (alloc_drew _ _) [4, 5] (cs_drew _ _ _ _ rfl) H1.out.1 (H1.out.2.cs HX.out HT.out.1 hxb) HT.out.1 HT.out.2 rfl L2.out.2 L2.out.1 (by first | decide | simp)).mono ?_; rintro e x2 ⟨rfl, p1, p2⟩; have H2 : Aside0 (Wr B wb bb (bs ++ encAt ((([]) ++ (sc_key (0))) ++ (at_ .n [4, 5])) vs) x2 ∧ Wk B bb w x2) := ⟨by rw [encAt_append, ← List.append_assoc]; exact p1, H1.out.2.trans p2⟩; clear p1 p2)))
    | fail
  go_wp2
  go_end0
  have ef : sc_quant = (([]) ++ (sc_key (0))) ++ (at_ .n [4, 5]) := by first | rfl | simp [sc_quant, List.append_assoc]
  exact ⟨rfl, by rw [ef]; exact H2.out.1, H2.out.2⟩
set_option maxHeartbeats 8000000 in
set_option maxRecDepth 100000 in
theorem quant_r {wb xb : Nat} {s : Rd} {T : TypeId} {vs : List Value} {w : World} (h : Rw wb s w) (hx : Cs xb T vs w) (hxw : xb ≠ wb) (hj : ∀ x ∈ sc_quant, x.2 < vs.length) (hl : s.D.length ≤ 1000000000000) :
    Calls Tryz.prog 65 #[.pointer (some ⟨wb, 0, none⟩), .pointer (some ⟨xb, 0, none⟩)] w (Redd wb xb T (rdAt sc_quant (s, vs)) w) := by
  have H0 : Aside0 (Rw wb (rdAt ([]) (s, vs)).1 w ∧ Cs xb T (rdAt ([]) (s, vs)).2 w ∧ Fr (fun i => i = wb ∨ i = xb) w w) := ⟨h, hx, Fr.refl _ _⟩
  have HXW := Aside0.mk hxw
  have HJ := Aside0.mk hj
  have HL := Aside0.mk hl
  clear h hx hxw hj hl
  have ES0 : Aside0 (sc_quant = ([] : Sc) ++ (sc_quant)) := ⟨rfl⟩
  go_enter Tryz.func65, Tryz.ntmps65
  have E1 : Aside0 (sc_quant = (([]) ++ (sc_key (0))) ++ ((at_ .n [4, 5]))) := ⟨by rw [ES0.out]; first | rfl | simp [sc_quant, List.append_assoc]⟩
  have k1 : ∀ x ∈ (sc_key (0) : Sc), x.2 < (rdAt ([]) (s, vs)).2.length := fun x hx => by
    rw [(rdAt_len _ _).2]
    refine HJ.out x ?_
    rw [E1.out]
    exact List.mem_append_left _ (List.mem_append_right _ hx)
  have j1 := k1
  have L1 := Aside0.mk (And.intro j1 (Nat.le_trans (rdAt_len ([]) (s, vs)).1 HL.out))
  clear k1 j1
  go_wp2_with (fail)
  first
    | (refine (key_r _ _ (0) _ _ _ _ H0.out.1 H0.out.2.1 HXW.out L1.out.1 L1.out.2).mono ?_; rintro e x1 ⟨rfl, p1, p2, p3⟩; have H1 : Aside0 (Rw wb (rdAt (([]) ++ (sc_key (0))) (s, vs)).1 x1 ∧ Cs xb T (rdAt (([]) ++ (sc_key (0))) (s, vs)).2 x1 ∧ Fr (fun i => i = wb ∨ i = xb) w x1) := ⟨by rw [rdAt_append]; exact p1, by rw [rdAt_append]; exact p2, H0.out.2.2.trans p3 fun i hi => .inl hi⟩; clear p1 p2 p3)
    | (go_region_held3 (fun _ => True) (trivial) ((go_at_call 66; refine (key_r _ _ (0) _ _ _ _ H0.out.1 H0.out.2.1 HXW.out L1.out.1 L1.out.2).mono ?_; rintro e x1 ⟨rfl, p1, p2, p3⟩; have H1 : Aside0 (Rw wb (rdAt (([]) ++ (sc_key (0))) (s, vs)).1 x1 ∧ Cs xb T (rdAt (([]) ++ (sc_key (0))) (s, vs)).2 x1 ∧ Fr (fun i => i = wb ∨ i = xb) w x1) := ⟨by rw [rdAt_append]; exact p1, by rw [rdAt_append]; exact p2, H0.out.2.2.trans p3 fun i hi => .inl hi⟩; clear p1 p2 p3)))
    | fail
  have E2 : Aside0 (sc_quant = ((([]) ++ (sc_key (0))) ++ (at_ .n [4, 5])) ++ (([] : Sc))) := ⟨by rw [E1.out]; first | rfl | simp [sc_quant, List.append_assoc]⟩
  have k2 : ∀ x ∈ (at_ .n [4, 5] : Sc), x.2 < (rdAt (([]) ++ (sc_key (0))) (s, vs)).2.length := fun x hx => by
    rw [(rdAt_len _ _).2]
    refine HJ.out x ?_
    rw [E2.out]
    exact List.mem_append_left _ (List.mem_append_right _ hx)
  have j2 : ∀ j ∈ ([4, 5] : List Nat), j < (rdAt (([]) ++ (sc_key (0))) (s, vs)).2.length := fun j hj => k2 (.n, j) (List.mem_map.2 ⟨j, hj, rfl⟩)
  have L2 := Aside0.mk (And.intro j2 (Nat.le_trans (rdAt_len (([]) ++ (sc_key (0))) (s, vs)).1 HL.out))
  clear k2 j2
  go_wp2_with (fail)
  first
    | (refine (nums_rc (alloc_below _ _) [4, 5] (cs_alloc _ _ _ _ rfl) H1.out.1 H1.out.2.1 HXW.out rfl L2.out.1 L2.out.2 (by first | decide | simp)).mono ?_; rintro e x2 ⟨rfl, p1, p2, p3⟩; have H2 : Aside0 (Rw wb (rdAt ((([]) ++ (sc_key (0))) ++ (at_ .n [4, 5])) (s, vs)).1 x2 ∧ Cs xb T (rdAt ((([]) ++ (sc_key (0))) ++ (at_ .n [4, 5])) (s, vs)).2 x2 ∧ Fr (fun i => i = wb ∨ i = xb) w x2) := ⟨by rw [rdAt_append]; exact p1, by rw [rdAt_append]; exact p2, H1.out.2.2.trans p3 fun i hi => .inl hi⟩; clear p1 p2 p3)
    | (go_region_held3 (fun _ => True) (trivial) ((go_at_call 59; refine (nums_rc (alloc_drew _ _) [4, 5] (cs_drew _ _ _ _ rfl) H1.out.1 H1.out.2.1 HXW.out rfl L2.out.1 L2.out.2 (by first | decide | simp)).mono ?_; rintro e x2 ⟨rfl, p1, p2, p3⟩; have H2 : Aside0 (Rw wb (rdAt ((([]) ++ (sc_key (0))) ++ (at_ .n [4, 5])) (s, vs)).1 x2 ∧ Cs xb T (rdAt ((([]) ++ (sc_key (0))) ++ (at_ .n [4, 5])) (s, vs)).2 x2 ∧ Fr (fun i => i = wb ∨ i = xb) w x2) := ⟨by rw [rdAt_append]; exact p1, by rw [rdAt_append]; exact p2, H1.out.2.2.trans p3 fun i hi => .inl hi⟩; clear p1 p2 p3)))
    | fail
  go_wp2
  go_end0
  have ef : sc_quant = (([]) ++ (sc_key (0))) ++ (at_ .n [4, 5]) := by first | rfl | simp [sc_quant, List.append_assoc]
  rw [ef]
  exact ⟨rfl, H2.out⟩
def sc_rule : Sc := (at_ .t [0, 1]) ++ (at_ .n [2])
set_option maxHeartbeats 8000000 in
set_option maxRecDepth 100000 in
theorem rule_w {B wb bb xb : Nat} {bs : List UInt8} {T : TypeId} {vs : List Value} {w : World} (h : Wr B wb bb bs w) (hx : Cs xb T vs w) (hT : T ≠ 5) (hT2 : T ≠ 108) (hk : OkAt sc_rule vs) (hl : bs.length + (encAt sc_rule vs).length ≤ 140737488355328) :
    Calls Tryz.prog 68 #[.pointer (some ⟨wb, 0, none⟩), .pointer (some ⟨xb, 0, none⟩)] w (Writ B wb bb (bs ++ encAt sc_rule vs) w) := by
  have H0 : Aside0 (Wr B wb bb (bs ++ encAt ([]) vs) w ∧ Wk B bb w w) := ⟨by simpa [encAt] using h, Wk.refl _ _ _⟩
  have hxb : xb ≠ bb := h.bbT hx hT2
  have HX := Aside0.mk hx
  have HT := Aside0.mk (And.intro hT hT2)
  have HK := Aside0.mk hk
  have HL := Aside0.mk hl
  clear h hx hT hT2 hk hl
  have ES0 : Aside0 (sc_rule = ([] : Sc) ++ (sc_rule)) := ⟨rfl⟩
  go_enter Tryz.func68, Tryz.ntmps68
  have E1 : Aside0 (sc_rule = (([]) ++ (at_ .t [0, 1])) ++ ((at_ .n [2]))) := ⟨by rw [ES0.out]; first | rfl | simp [sc_rule, List.append_assoc]⟩
  have l1 : (bs ++ encAt ([]) vs).length + (encAt (at_ .t [0, 1]) vs).length ≤ 140737488355328 := by
    have z := HL.out
    rw [E1.out, encAt_append, encAt_append] at z
    simp only [List.length_append] at z ⊢
    omega
  have k1 : OkAt (at_ .t [0, 1]) vs := by
    have z := HK.out
    rw [E1.out] at z
    exact z.left.right
  have L1 := Aside0.mk (And.intro l1 k1)
  clear l1 k1
  go_wp2_with (fail)
  first
    | (refine (texts_wc (alloc_below _ _) [0, 1] (cs_alloc _ _ _ _ rfl) H0.out.1 (H0.out.2.cs HX.out HT.out.1 hxb) HT.out.1 HT.out.2 rfl L1.out.2 L1.out.1 (by first | decide | simp)).mono ?_; rintro e x1 ⟨rfl, p1, p2⟩; have H1 : Aside0 (Wr B wb bb (bs ++ encAt (([]) ++ (at_ .t [0, 1])) vs) x1 ∧ Wk B bb w x1) := ⟨by rw [encAt_append, ← List.append_assoc]; exact p1, H0.out.2.trans p2⟩; clear p1 p2)
    | (go_region_held3 (fun _ => True) (trivial) ((go_at_call 58; refine (texts_wc (alloc_drew _ _) [0, 1] (cs_drew _ _ _ _ rfl) H0.out.1 (H0.out.2.cs HX.out HT.out.1 hxb) HT.out.1 HT.out.2 rfl L1.out.2 L1.out.1 (by first | decide | simp)).mono ?_; rintro e x1 ⟨rfl, p1, p2⟩; have H1 : Aside0 (Wr B wb bb (bs ++ encAt (([]) ++ (at_ .t [0, 1])) vs) x1 ∧ Wk B bb w x1) := ⟨by rw [encAt_append, ← List.append_assoc]; exact p1, H0.out.2.trans p2⟩; clear p1 p2)))
    | fail
  have E2 : Aside0 (sc_rule = ((([]) ++ (at_ .t [0, 1])) ++ (at_ .n [2])) ++ (([] : Sc))) := ⟨by rw [E1.out]; first | rfl | simp [sc_rule, List.append_assoc]⟩
  have l2 : (bs ++ encAt (([]) ++ (at_ .t [0, 1])) vs).length + (encAt (at_ .n [2]) vs).length ≤ 140737488355328 := by
    have z := HL.out
    rw [E2.out, encAt_append, encAt_append] at z
    simp only [List.length_append] at z ⊢
    omega
  have k2 : OkAt (at_ .n [2]) vs := by
    have z := HK.out
    rw [E2.out] at z
    exact z.left.right
  have L2 := Aside0.mk (And.intro l2 k2)
  clear l2 k2
  go_wp2_with (fail)
  first
    | (refine (nums_wc (alloc_below _ _) [2] (cs_alloc _ _ _ _ rfl) H1.out.1 (H1.out.2.cs HX.out HT.out.1 hxb) HT.out.1 HT.out.2 rfl L2.out.2 L2.out.1 (by first | decide | simp)).mono ?_; rintro e x2 ⟨rfl, p1, p2⟩; have H2 : Aside0 (Wr B wb bb (bs ++ encAt ((([]) ++ (at_ .t [0, 1])) ++ (at_ .n [2])) vs) x2 ∧ Wk B bb w x2) := ⟨by rw [encAt_append, ← List.append_assoc]; exact p1, H1.out.2.trans p2⟩; clear p1 p2)
    | (go_region_held3 (fun _ => True) (trivial) ((go_at_call 59; refine (nums_wc (alloc_drew _ _) [2] (cs_drew _ _ _ _ rfl) H1.out.1 (H1.out.2.cs HX.out HT.out.1 hxb) HT.out.1 HT.out.2 rfl L2.out.2 L2.out.1 (by first | decide | simp)).mono ?_; rintro e x2 ⟨rfl, p1, p2⟩; have H2 : Aside0 (Wr B wb bb (bs ++ encAt ((([]) ++ (at_ .t [0, 1])) ++ (at_ .n [2])) vs) x2 ∧ Wk B bb w x2) := ⟨by rw [encAt_append, ← List.append_assoc]; exact p1, H1.out.2.trans p2⟩; clear p1 p2)))
    | fail
  go_wp2
  go_end0
  have ef : sc_rule = (([]) ++ (at_ .t [0, 1])) ++ (at_ .n [2]) := by first | rfl | simp [sc_rule, List.append_assoc]
  exact ⟨rfl, by rw [ef]; exact H2.out.1, H2.out.2⟩
set_option maxHeartbeats 8000000 in
set_option maxRecDepth 100000 in
theorem rule_r {wb xb : Nat} {s : Rd} {T : TypeId} {vs : List Value} {w : World} (h : Rw wb s w) (hx : Cs xb T vs w) (hxw : xb ≠ wb) (hj : ∀ x ∈ sc_rule, x.2 < vs.length) (hl : s.D.length ≤ 1000000000000) :
    Calls Tryz.prog 68 #[.pointer (some ⟨wb, 0, none⟩), .pointer (some ⟨xb, 0, none⟩)] w (Redd wb xb T (rdAt sc_rule (s, vs)) w) := by
  have H0 : Aside0 (Rw wb (rdAt ([]) (s, vs)).1 w ∧ Cs xb T (rdAt ([]) (s, vs)).2 w ∧ Fr (fun i => i = wb ∨ i = xb) w w) := ⟨h, hx, Fr.refl _ _⟩
  have HXW := Aside0.mk hxw
  have HJ := Aside0.mk hj
  have HL := Aside0.mk hl
  clear h hx hxw hj hl
  have ES0 : Aside0 (sc_rule = ([] : Sc) ++ (sc_rule)) := ⟨rfl⟩
  go_enter Tryz.func68, Tryz.ntmps68
  have E1 : Aside0 (sc_rule = (([]) ++ (at_ .t [0, 1])) ++ ((at_ .n [2]))) := ⟨by rw [ES0.out]; first | rfl | simp [sc_rule, List.append_assoc]⟩
  have k1 : ∀ x ∈ (at_ .t [0, 1] : Sc), x.2 < (rdAt ([]) (s, vs)).2.length := fun x hx => by
    rw [(rdAt_len _ _).2]
    refine HJ.out x ?_
    rw [E1.out]
    exact List.mem_append_left _ (List.mem_append_right _ hx)
  have j1 : ∀ j ∈ ([0, 1] : List Nat), j < (rdAt ([]) (s, vs)).2.length := fun j hj => k1 (.t, j) (List.mem_map.2 ⟨j, hj, rfl⟩)
  have L1 := Aside0.mk (And.intro j1 (Nat.le_trans (rdAt_len ([]) (s, vs)).1 HL.out))
  clear k1 j1
  go_wp2_with (fail)
  first
    | (refine (texts_rc (alloc_below _ _) [0, 1] (cs_alloc _ _ _ _ rfl) H0.out.1 H0.out.2.1 HXW.out rfl L1.out.1 L1.out.2 (by first | decide | simp)).mono ?_; rintro e x1 ⟨rfl, p1, p2, p3⟩; have H1 : Aside0 (Rw wb (rdAt (([]) ++ (at_ .t [0, 1])) (s, vs)).1 x1 ∧ Cs xb T (rdAt (([]) ++ (at_ .t [0, 1])) (s, vs)).2 x1 ∧ Fr (fun i => i = wb ∨ i = xb) w x1) := ⟨by rw [rdAt_append]; exact p1, by rw [rdAt_append]; exact p2, H0.out.2.2.trans p3 fun i hi => .inl hi⟩; clear p1 p2 p3)
    | (go_region_held3 (fun _ => True) (trivial) ((go_at_call 58; refine (texts_rc (alloc_drew _ _) [0, 1] (cs_drew _ _ _ _ rfl) H0.out.1 H0.out.2.1 HXW.out rfl L1.out.1 L1.out.2 (by first | decide | simp)).mono ?_; rintro e x1 ⟨rfl, p1, p2, p3⟩; have H1 : Aside0 (Rw wb (rdAt (([]) ++ (at_ .t [0, 1])) (s, vs)).1 x1 ∧ Cs xb T (rdAt (([]) ++ (at_ .t [0, 1])) (s, vs)).2 x1 ∧ Fr (fun i => i = wb ∨ i = xb) w x1) := ⟨by rw [rdAt_append]; exact p1, by rw [rdAt_append]; exact p2, H0.out.2.2.trans p3 fun i hi => .inl hi⟩; clear p1 p2 p3)))
    | fail
  have E2 : Aside0 (sc_rule = ((([]) ++ (at_ .t [0, 1])) ++ (at_ .n [2])) ++ (([] : Sc))) := ⟨by rw [E1.out]; first | rfl | simp [sc_rule, List.append_assoc]⟩
  have k2 : ∀ x ∈ (at_ .n [2] : Sc), x.2 < (rdAt (([]) ++ (at_ .t [0, 1])) (s, vs)).2.length := fun x hx => by
    rw [(rdAt_len _ _).2]
    refine HJ.out x ?_
    rw [E2.out]
    exact List.mem_append_left _ (List.mem_append_right _ hx)
  have j2 : ∀ j ∈ ([2] : List Nat), j < (rdAt (([]) ++ (at_ .t [0, 1])) (s, vs)).2.length := fun j hj => k2 (.n, j) (List.mem_map.2 ⟨j, hj, rfl⟩)
  have L2 := Aside0.mk (And.intro j2 (Nat.le_trans (rdAt_len (([]) ++ (at_ .t [0, 1])) (s, vs)).1 HL.out))
  clear k2 j2
  go_wp2_with (fail)
  first
    | (refine (nums_rc (alloc_below _ _) [2] (cs_alloc _ _ _ _ rfl) H1.out.1 H1.out.2.1 HXW.out rfl L2.out.1 L2.out.2 (by first | decide | simp)).mono ?_; rintro e x2 ⟨rfl, p1, p2, p3⟩; have H2 : Aside0 (Rw wb (rdAt ((([]) ++ (at_ .t [0, 1])) ++ (at_ .n [2])) (s, vs)).1 x2 ∧ Cs xb T (rdAt ((([]) ++ (at_ .t [0, 1])) ++ (at_ .n [2])) (s, vs)).2 x2 ∧ Fr (fun i => i = wb ∨ i = xb) w x2) := ⟨by rw [rdAt_append]; exact p1, by rw [rdAt_append]; exact p2, H1.out.2.2.trans p3 fun i hi => .inl hi⟩; clear p1 p2 p3)
    | (go_region_held3 (fun _ => True) (trivial) ((go_at_call 59; refine (nums_rc (alloc_drew _ _) [2] (cs_drew _ _ _ _ rfl) H1.out.1 H1.out.2.1 HXW.out rfl L2.out.1 L2.out.2 (by first | decide | simp)).mono ?_; rintro e x2 ⟨rfl, p1, p2, p3⟩; have H2 : Aside0 (Rw wb (rdAt ((([]) ++ (at_ .t [0, 1])) ++ (at_ .n [2])) (s, vs)).1 x2 ∧ Cs xb T (rdAt ((([]) ++ (at_ .t [0, 1])) ++ (at_ .n [2])) (s, vs)).2 x2 ∧ Fr (fun i => i = wb ∨ i = xb) w x2) := ⟨by rw [rdAt_append]; exact p1, by rw [rdAt_append]; exact p2, H1.out.2.2.trans p3 fun i hi => .inl hi⟩; clear p1 p2 p3)))
    | fail
  go_wp2
  go_end0
  have ef : sc_rule = (([]) ++ (at_ .t [0, 1])) ++ (at_ .n [2]) := by first | rfl | simp [sc_rule, List.append_assoc]
  rw [ef]
  exact ⟨rfl, H2.out⟩
def sc_claim : Sc := (at_ .t [0]) ++ (at_ .n [1]) ++ (sc_key (2)) ++ (at_ .n [6, 7])
set_option maxHeartbeats 8000000 in
set_option maxRecDepth 100000 in
theorem claim_w {B wb bb xb : Nat} {bs : List UInt8} {T : TypeId} {vs : List Value} {w : World} (h : Wr B wb bb bs w) (hx : Cs xb T vs w) (hT : T ≠ 5) (hT2 : T ≠ 108) (hk : OkAt sc_claim vs) (hl : bs.length + (encAt sc_claim vs).length ≤ 140737488355328) :
    Calls Tryz.prog 76 #[.pointer (some ⟨wb, 0, none⟩), .pointer (some ⟨xb, 0, none⟩)] w (Writ B wb bb (bs ++ encAt sc_claim vs) w) := by
  have H0 : Aside0 (Wr B wb bb (bs ++ encAt ([]) vs) w ∧ Wk B bb w w) := ⟨by simpa [encAt] using h, Wk.refl _ _ _⟩
  have hxb : xb ≠ bb := h.bbT hx hT2
  have HX := Aside0.mk hx
  have HT := Aside0.mk (And.intro hT hT2)
  have HK := Aside0.mk hk
  have HL := Aside0.mk hl
  clear h hx hT hT2 hk hl
  have ES0 : Aside0 (sc_claim = ([] : Sc) ++ (sc_claim)) := ⟨rfl⟩
  go_enter Tryz.func76, Tryz.ntmps76
  have E1 : Aside0 (sc_claim = (([]) ++ (at_ .t [0])) ++ ((at_ .n [1]) ++ (sc_key (2)) ++ (at_ .n [6, 7]))) := ⟨by rw [ES0.out]; first | rfl | simp [sc_claim, List.append_assoc]⟩
  have l1 : (bs ++ encAt ([]) vs).length + (encAt (at_ .t [0]) vs).length ≤ 140737488355328 := by
    have z := HL.out
    rw [E1.out, encAt_append, encAt_append] at z
    simp only [List.length_append] at z ⊢
    omega
  have k1 : OkAt (at_ .t [0]) vs := by
    have z := HK.out
    rw [E1.out] at z
    exact z.left.right
  have L1 := Aside0.mk (And.intro l1 k1)
  clear l1 k1
  go_wp2_with (fail)
  first
    | (refine (texts_wc (alloc_below _ _) [0] (cs_alloc _ _ _ _ rfl) H0.out.1 (H0.out.2.cs HX.out HT.out.1 hxb) HT.out.1 HT.out.2 rfl L1.out.2 L1.out.1 (by first | decide | simp)).mono ?_; rintro e x1 ⟨rfl, p1, p2⟩; have H1 : Aside0 (Wr B wb bb (bs ++ encAt (([]) ++ (at_ .t [0])) vs) x1 ∧ Wk B bb w x1) := ⟨by rw [encAt_append, ← List.append_assoc]; exact p1, H0.out.2.trans p2⟩; clear p1 p2)
    | (go_region_held3 (fun _ => True) (trivial) ((go_at_call 58; refine (texts_wc (alloc_drew _ _) [0] (cs_drew _ _ _ _ rfl) H0.out.1 (H0.out.2.cs HX.out HT.out.1 hxb) HT.out.1 HT.out.2 rfl L1.out.2 L1.out.1 (by first | decide | simp)).mono ?_; rintro e x1 ⟨rfl, p1, p2⟩; have H1 : Aside0 (Wr B wb bb (bs ++ encAt (([]) ++ (at_ .t [0])) vs) x1 ∧ Wk B bb w x1) := ⟨by rw [encAt_append, ← List.append_assoc]; exact p1, H0.out.2.trans p2⟩; clear p1 p2)))
    | fail
  have E2 : Aside0 (sc_claim = ((([]) ++ (at_ .t [0])) ++ (at_ .n [1])) ++ ((sc_key (2)) ++ (at_ .n [6, 7]))) := ⟨by rw [E1.out]; first | rfl | simp [sc_claim, List.append_assoc]⟩
  have l2 : (bs ++ encAt (([]) ++ (at_ .t [0])) vs).length + (encAt (at_ .n [1]) vs).length ≤ 140737488355328 := by
    have z := HL.out
    rw [E2.out, encAt_append, encAt_append] at z
    simp only [List.length_append] at z ⊢
    omega
  have k2 : OkAt (at_ .n [1]) vs := by
    have z := HK.out
    rw [E2.out] at z
    exact z.left.right
  have L2 := Aside0.mk (And.intro l2 k2)
  clear l2 k2
  go_wp2_with (fail)
  first
    | (refine (nums_wc (alloc_below _ _) [1] (cs_alloc _ _ _ _ rfl) H1.out.1 (H1.out.2.cs HX.out HT.out.1 hxb) HT.out.1 HT.out.2 rfl L2.out.2 L2.out.1 (by first | decide | simp)).mono ?_; rintro e x2 ⟨rfl, p1, p2⟩; have H2 : Aside0 (Wr B wb bb (bs ++ encAt ((([]) ++ (at_ .t [0])) ++ (at_ .n [1])) vs) x2 ∧ Wk B bb w x2) := ⟨by rw [encAt_append, ← List.append_assoc]; exact p1, H1.out.2.trans p2⟩; clear p1 p2)
    | (go_region_held3 (fun _ => True) (trivial) ((go_at_call 59; refine (nums_wc (alloc_drew _ _) [1] (cs_drew _ _ _ _ rfl) H1.out.1 (H1.out.2.cs HX.out HT.out.1 hxb) HT.out.1 HT.out.2 rfl L2.out.2 L2.out.1 (by first | decide | simp)).mono ?_; rintro e x2 ⟨rfl, p1, p2⟩; have H2 : Aside0 (Wr B wb bb (bs ++ encAt ((([]) ++ (at_ .t [0])) ++ (at_ .n [1])) vs) x2 ∧ Wk B bb w x2) := ⟨by rw [encAt_append, ← List.append_assoc]; exact p1, H1.out.2.trans p2⟩; clear p1 p2)))
    | fail
  have E3 : Aside0 (sc_claim = (((([]) ++ (at_ .t [0])) ++ (at_ .n [1])) ++ (sc_key (2))) ++ ((at_ .n [6, 7]))) := ⟨by rw [E2.out]; first | rfl | simp [sc_claim, List.append_assoc]⟩
  have l3 : (bs ++ encAt ((([]) ++ (at_ .t [0])) ++ (at_ .n [1])) vs).length + (encAt (sc_key (2)) vs).length ≤ 140737488355328 := by
    have z := HL.out
    rw [E3.out, encAt_append, encAt_append] at z
    simp only [List.length_append] at z ⊢
    omega
  have k3 : OkAt (sc_key (2)) vs := by
    have z := HK.out
    rw [E3.out] at z
    exact z.left.right
  have L3 := Aside0.mk (And.intro l3 k3)
  clear l3 k3
  go_wp2_with (fail)
  first
    | (refine (key_w _ _ _ _ (2) _ _ _ _ H2.out.1 (H2.out.2.cs HX.out HT.out.1 hxb) HT.out.1 HT.out.2 L3.out.2 L3.out.1).mono ?_; rintro e x3 ⟨rfl, p1, p2⟩; have H3 : Aside0 (Wr B wb bb (bs ++ encAt (((([]) ++ (at_ .t [0])) ++ (at_ .n [1])) ++ (sc_key (2))) vs) x3 ∧ Wk B bb w x3) := ⟨by rw [encAt_append, ← List.append_assoc]; exact p1, H2.out.2.trans p2⟩; clear p1 p2)
    | (go_region_held3 (fun _ => True) (trivial) ((go_at_call 66; refine (key_w _ _ _ _ (2) _ _ _ _ H2.out.1 (H2.out.2.cs HX.out HT.out.1 hxb) HT.out.1 HT.out.2 L3.out.2 L3.out.1).mono ?_; rintro e x3 ⟨rfl, p1, p2⟩; have H3 : Aside0 (Wr B wb bb (bs ++ encAt (((([]) ++ (at_ .t [0])) ++ (at_ .n [1])) ++ (sc_key (2))) vs) x3 ∧ Wk B bb w x3) := ⟨by rw [encAt_append, ← List.append_assoc]; exact p1, H2.out.2.trans p2⟩; clear p1 p2)))
    | fail
  have E4 : Aside0 (sc_claim = ((((([]) ++ (at_ .t [0])) ++ (at_ .n [1])) ++ (sc_key (2))) ++ (at_ .n [6, 7])) ++ (([] : Sc))) := ⟨by rw [E3.out]; first | rfl | simp [sc_claim, List.append_assoc]⟩
  have l4 : (bs ++ encAt (((([]) ++ (at_ .t [0])) ++ (at_ .n [1])) ++ (sc_key (2))) vs).length + (encAt (at_ .n [6, 7]) vs).length ≤ 140737488355328 := by
    have z := HL.out
    rw [E4.out, encAt_append, encAt_append] at z
    simp only [List.length_append] at z ⊢
    omega
  have k4 : OkAt (at_ .n [6, 7]) vs := by
    have z := HK.out
    rw [E4.out] at z
    exact z.left.right
  have L4 := Aside0.mk (And.intro l4 k4)
  clear l4 k4
  go_wp2_with (fail)
  first
    | (refine (nums_wc (alloc_below _ _) [6, 7] (cs_alloc _ _ _ _ rfl) H3.out.1 (H3.out.2.cs HX.out HT.out.1 hxb) HT.out.1 HT.out.2 rfl L4.out.2 L4.out.1 (by first | decide | simp)).mono ?_; rintro e x4 ⟨rfl, p1, p2⟩; have H4 : Aside0 (Wr B wb bb (bs ++ encAt ((((([]) ++ (at_ .t [0])) ++ (at_ .n [1])) ++ (sc_key (2))) ++ (at_ .n [6, 7])) vs) x4 ∧ Wk B bb w x4) := ⟨by rw [encAt_append, ← List.append_assoc]; exact p1, H3.out.2.trans p2⟩; clear p1 p2)
    | (go_region_held3 (fun _ => True) (trivial) ((go_at_call 59; refine (nums_wc (alloc_drew _ _) [6, 7] (cs_drew _ _ _ _ rfl) H3.out.1 (H3.out.2.cs HX.out HT.out.1 hxb) HT.out.1 HT.out.2 rfl L4.out.2 L4.out.1 (by first | decide | simp)).mono ?_; rintro e x4 ⟨rfl, p1, p2⟩; have H4 : Aside0 (Wr B wb bb (bs ++ encAt ((((([]) ++ (at_ .t [0])) ++ (at_ .n [1])) ++ (sc_key (2))) ++ (at_ .n [6, 7])) vs) x4 ∧ Wk B bb w x4) := ⟨by rw [encAt_append, ← List.append_assoc]; exact p1, H3.out.2.trans p2⟩; clear p1 p2)))
    | fail
  go_wp2
  go_end0
  have ef : sc_claim = (((([]) ++ (at_ .t [0])) ++ (at_ .n [1])) ++ (sc_key (2))) ++ (at_ .n [6, 7]) := by first | rfl | simp [sc_claim, List.append_assoc]
  exact ⟨rfl, by rw [ef]; exact H4.out.1, H4.out.2⟩
set_option maxHeartbeats 8000000 in
set_option maxRecDepth 100000 in
theorem claim_r {wb xb : Nat} {s : Rd} {T : TypeId} {vs : List Value} {w : World} (h : Rw wb s w) (hx : Cs xb T vs w) (hxw : xb ≠ wb) (hj : ∀ x ∈ sc_claim, x.2 < vs.length) (hl : s.D.length ≤ 1000000000000) :
    Calls Tryz.prog 76 #[.pointer (some ⟨wb, 0, none⟩), .pointer (some ⟨xb, 0, none⟩)] w (Redd wb xb T (rdAt sc_claim (s, vs)) w) := by
  have H0 : Aside0 (Rw wb (rdAt ([]) (s, vs)).1 w ∧ Cs xb T (rdAt ([]) (s, vs)).2 w ∧ Fr (fun i => i = wb ∨ i = xb) w w) := ⟨h, hx, Fr.refl _ _⟩
  have HXW := Aside0.mk hxw
  have HJ := Aside0.mk hj
  have HL := Aside0.mk hl
  clear h hx hxw hj hl
  have ES0 : Aside0 (sc_claim = ([] : Sc) ++ (sc_claim)) := ⟨rfl⟩
  go_enter Tryz.func76, Tryz.ntmps76
  have E1 : Aside0 (sc_claim = (([]) ++ (at_ .t [0])) ++ ((at_ .n [1]) ++ (sc_key (2)) ++ (at_ .n [6, 7]))) := ⟨by rw [ES0.out]; first | rfl | simp [sc_claim, List.append_assoc]⟩
  have k1 : ∀ x ∈ (at_ .t [0] : Sc), x.2 < (rdAt ([]) (s, vs)).2.length := fun x hx => by
    rw [(rdAt_len _ _).2]
    refine HJ.out x ?_
    rw [E1.out]
    exact List.mem_append_left _ (List.mem_append_right _ hx)
  have j1 : ∀ j ∈ ([0] : List Nat), j < (rdAt ([]) (s, vs)).2.length := fun j hj => k1 (.t, j) (List.mem_map.2 ⟨j, hj, rfl⟩)
  have L1 := Aside0.mk (And.intro j1 (Nat.le_trans (rdAt_len ([]) (s, vs)).1 HL.out))
  clear k1 j1
  go_wp2_with (fail)
  first
    | (refine (texts_rc (alloc_below _ _) [0] (cs_alloc _ _ _ _ rfl) H0.out.1 H0.out.2.1 HXW.out rfl L1.out.1 L1.out.2 (by first | decide | simp)).mono ?_; rintro e x1 ⟨rfl, p1, p2, p3⟩; have H1 : Aside0 (Rw wb (rdAt (([]) ++ (at_ .t [0])) (s, vs)).1 x1 ∧ Cs xb T (rdAt (([]) ++ (at_ .t [0])) (s, vs)).2 x1 ∧ Fr (fun i => i = wb ∨ i = xb) w x1) := ⟨by rw [rdAt_append]; exact p1, by rw [rdAt_append]; exact p2, H0.out.2.2.trans p3 fun i hi => .inl hi⟩; clear p1 p2 p3)
    | (go_region_held3 (fun _ => True) (trivial) ((go_at_call 58; refine (texts_rc (alloc_drew _ _) [0] (cs_drew _ _ _ _ rfl) H0.out.1 H0.out.2.1 HXW.out rfl L1.out.1 L1.out.2 (by first | decide | simp)).mono ?_; rintro e x1 ⟨rfl, p1, p2, p3⟩; have H1 : Aside0 (Rw wb (rdAt (([]) ++ (at_ .t [0])) (s, vs)).1 x1 ∧ Cs xb T (rdAt (([]) ++ (at_ .t [0])) (s, vs)).2 x1 ∧ Fr (fun i => i = wb ∨ i = xb) w x1) := ⟨by rw [rdAt_append]; exact p1, by rw [rdAt_append]; exact p2, H0.out.2.2.trans p3 fun i hi => .inl hi⟩; clear p1 p2 p3)))
    | fail
  have E2 : Aside0 (sc_claim = ((([]) ++ (at_ .t [0])) ++ (at_ .n [1])) ++ ((sc_key (2)) ++ (at_ .n [6, 7]))) := ⟨by rw [E1.out]; first | rfl | simp [sc_claim, List.append_assoc]⟩
  have k2 : ∀ x ∈ (at_ .n [1] : Sc), x.2 < (rdAt (([]) ++ (at_ .t [0])) (s, vs)).2.length := fun x hx => by
    rw [(rdAt_len _ _).2]
    refine HJ.out x ?_
    rw [E2.out]
    exact List.mem_append_left _ (List.mem_append_right _ hx)
  have j2 : ∀ j ∈ ([1] : List Nat), j < (rdAt (([]) ++ (at_ .t [0])) (s, vs)).2.length := fun j hj => k2 (.n, j) (List.mem_map.2 ⟨j, hj, rfl⟩)
  have L2 := Aside0.mk (And.intro j2 (Nat.le_trans (rdAt_len (([]) ++ (at_ .t [0])) (s, vs)).1 HL.out))
  clear k2 j2
  go_wp2_with (fail)
  first
    | (refine (nums_rc (alloc_below _ _) [1] (cs_alloc _ _ _ _ rfl) H1.out.1 H1.out.2.1 HXW.out rfl L2.out.1 L2.out.2 (by first | decide | simp)).mono ?_; rintro e x2 ⟨rfl, p1, p2, p3⟩; have H2 : Aside0 (Rw wb (rdAt ((([]) ++ (at_ .t [0])) ++ (at_ .n [1])) (s, vs)).1 x2 ∧ Cs xb T (rdAt ((([]) ++ (at_ .t [0])) ++ (at_ .n [1])) (s, vs)).2 x2 ∧ Fr (fun i => i = wb ∨ i = xb) w x2) := ⟨by rw [rdAt_append]; exact p1, by rw [rdAt_append]; exact p2, H1.out.2.2.trans p3 fun i hi => .inl hi⟩; clear p1 p2 p3)
    | (go_region_held3 (fun _ => True) (trivial) ((go_at_call 59; refine (nums_rc (alloc_drew _ _) [1] (cs_drew _ _ _ _ rfl) H1.out.1 H1.out.2.1 HXW.out rfl L2.out.1 L2.out.2 (by first | decide | simp)).mono ?_; rintro e x2 ⟨rfl, p1, p2, p3⟩; have H2 : Aside0 (Rw wb (rdAt ((([]) ++ (at_ .t [0])) ++ (at_ .n [1])) (s, vs)).1 x2 ∧ Cs xb T (rdAt ((([]) ++ (at_ .t [0])) ++ (at_ .n [1])) (s, vs)).2 x2 ∧ Fr (fun i => i = wb ∨ i = xb) w x2) := ⟨by rw [rdAt_append]; exact p1, by rw [rdAt_append]; exact p2, H1.out.2.2.trans p3 fun i hi => .inl hi⟩; clear p1 p2 p3)))
    | fail
  have E3 : Aside0 (sc_claim = (((([]) ++ (at_ .t [0])) ++ (at_ .n [1])) ++ (sc_key (2))) ++ ((at_ .n [6, 7]))) := ⟨by rw [E2.out]; first | rfl | simp [sc_claim, List.append_assoc]⟩
  have k3 : ∀ x ∈ (sc_key (2) : Sc), x.2 < (rdAt ((([]) ++ (at_ .t [0])) ++ (at_ .n [1])) (s, vs)).2.length := fun x hx => by
    rw [(rdAt_len _ _).2]
    refine HJ.out x ?_
    rw [E3.out]
    exact List.mem_append_left _ (List.mem_append_right _ hx)
  have j3 := k3
  have L3 := Aside0.mk (And.intro j3 (Nat.le_trans (rdAt_len ((([]) ++ (at_ .t [0])) ++ (at_ .n [1])) (s, vs)).1 HL.out))
  clear k3 j3
  go_wp2_with (fail)
  first
    | (refine (key_r _ _ (2) _ _ _ _ H2.out.1 H2.out.2.1 HXW.out L3.out.1 L3.out.2).mono ?_; rintro e x3 ⟨rfl, p1, p2, p3⟩; have H3 : Aside0 (Rw wb (rdAt (((([]) ++ (at_ .t [0])) ++ (at_ .n [1])) ++ (sc_key (2))) (s, vs)).1 x3 ∧ Cs xb T (rdAt (((([]) ++ (at_ .t [0])) ++ (at_ .n [1])) ++ (sc_key (2))) (s, vs)).2 x3 ∧ Fr (fun i => i = wb ∨ i = xb) w x3) := ⟨by rw [rdAt_append]; exact p1, by rw [rdAt_append]; exact p2, H2.out.2.2.trans p3 fun i hi => .inl hi⟩; clear p1 p2 p3)
    | (go_region_held3 (fun _ => True) (trivial) ((go_at_call 66; refine (key_r _ _ (2) _ _ _ _ H2.out.1 H2.out.2.1 HXW.out L3.out.1 L3.out.2).mono ?_; rintro e x3 ⟨rfl, p1, p2, p3⟩; have H3 : Aside0 (Rw wb (rdAt (((([]) ++ (at_ .t [0])) ++ (at_ .n [1])) ++ (sc_key (2))) (s, vs)).1 x3 ∧ Cs xb T (rdAt (((([]) ++ (at_ .t [0])) ++ (at_ .n [1])) ++ (sc_key (2))) (s, vs)).2 x3 ∧ Fr (fun i => i = wb ∨ i = xb) w x3) := ⟨by rw [rdAt_append]; exact p1, by rw [rdAt_append]; exact p2, H2.out.2.2.trans p3 fun i hi => .inl hi⟩; clear p1 p2 p3)))
    | fail
  have E4 : Aside0 (sc_claim = ((((([]) ++ (at_ .t [0])) ++ (at_ .n [1])) ++ (sc_key (2))) ++ (at_ .n [6, 7])) ++ (([] : Sc))) := ⟨by rw [E3.out]; first | rfl | simp [sc_claim, List.append_assoc]⟩
  have k4 : ∀ x ∈ (at_ .n [6, 7] : Sc), x.2 < (rdAt (((([]) ++ (at_ .t [0])) ++ (at_ .n [1])) ++ (sc_key (2))) (s, vs)).2.length := fun x hx => by
    rw [(rdAt_len _ _).2]
    refine HJ.out x ?_
    rw [E4.out]
    exact List.mem_append_left _ (List.mem_append_right _ hx)
  have j4 : ∀ j ∈ ([6, 7] : List Nat), j < (rdAt (((([]) ++ (at_ .t [0])) ++ (at_ .n [1])) ++ (sc_key (2))) (s, vs)).2.length := fun j hj => k4 (.n, j) (List.mem_map.2 ⟨j, hj, rfl⟩)
  have L4 := Aside0.mk (And.intro j4 (Nat.le_trans (rdAt_len (((([]) ++ (at_ .t [0])) ++ (at_ .n [1])) ++ (sc_key (2))) (s, vs)).1 HL.out))
  clear k4 j4
  go_wp2_with (fail)
  first
    | (refine (nums_rc (alloc_below _ _) [6, 7] (cs_alloc _ _ _ _ rfl) H3.out.1 H3.out.2.1 HXW.out rfl L4.out.1 L4.out.2 (by first | decide | simp)).mono ?_; rintro e x4 ⟨rfl, p1, p2, p3⟩; have H4 : Aside0 (Rw wb (rdAt ((((([]) ++ (at_ .t [0])) ++ (at_ .n [1])) ++ (sc_key (2))) ++ (at_ .n [6, 7])) (s, vs)).1 x4 ∧ Cs xb T (rdAt ((((([]) ++ (at_ .t [0])) ++ (at_ .n [1])) ++ (sc_key (2))) ++ (at_ .n [6, 7])) (s, vs)).2 x4 ∧ Fr (fun i => i = wb ∨ i = xb) w x4) := ⟨by rw [rdAt_append]; exact p1, by rw [rdAt_append]; exact p2, H3.out.2.2.trans p3 fun i hi => .inl hi⟩; clear p1 p2 p3)
    | (go_region_held3 (fun _ => True) (trivial) ((go_at_call 59; refine (nums_rc (alloc_drew _ _) [6, 7] (cs_drew _ _ _ _ rfl) H3.out.1 H3.out.2.1 HXW.out rfl L4.out.1 L4.out.2 (by first | decide | simp)).mono ?_; rintro e x4 ⟨rfl, p1, p2, p3⟩; have H4 : Aside0 (Rw wb (rdAt ((((([]) ++ (at_ .t [0])) ++ (at_ .n [1])) ++ (sc_key (2))) ++ (at_ .n [6, 7])) (s, vs)).1 x4 ∧ Cs xb T (rdAt ((((([]) ++ (at_ .t [0])) ++ (at_ .n [1])) ++ (sc_key (2))) ++ (at_ .n [6, 7])) (s, vs)).2 x4 ∧ Fr (fun i => i = wb ∨ i = xb) w x4) := ⟨by rw [rdAt_append]; exact p1, by rw [rdAt_append]; exact p2, H3.out.2.2.trans p3 fun i hi => .inl hi⟩; clear p1 p2 p3)))
    | fail
  go_wp2
  go_end0
  have ef : sc_claim = (((([]) ++ (at_ .t [0])) ++ (at_ .n [1])) ++ (sc_key (2))) ++ (at_ .n [6, 7]) := by first | rfl | simp [sc_claim, List.append_assoc]
  rw [ef]
  exact ⟨rfl, H4.out⟩
def sc_task : Sc := (at_ .n [0, 1]) ++ (at_ .t [2]) ++ (at_ .n [3]) ++ (sc_key (4)) ++ (at_ .t [8]) ++ (at_ .n [9]) ++ (at_ .t [10])
set_option maxHeartbeats 8000000 in
set_option maxRecDepth 100000 in
theorem task_w {B wb bb xb : Nat} {bs : List UInt8} {T : TypeId} {vs : List Value} {w : World} (h : Wr B wb bb bs w) (hx : Cs xb T vs w) (hT : T ≠ 5) (hT2 : T ≠ 108) (hk : OkAt sc_task vs) (hl : bs.length + (encAt sc_task vs).length ≤ 140737488355328) :
    Calls Tryz.prog 78 #[.pointer (some ⟨wb, 0, none⟩), .pointer (some ⟨xb, 0, none⟩)] w (Writ B wb bb (bs ++ encAt sc_task vs) w) := by
  have H0 : Aside0 (Wr B wb bb (bs ++ encAt ([]) vs) w ∧ Wk B bb w w) := ⟨by simpa [encAt] using h, Wk.refl _ _ _⟩
  have hxb : xb ≠ bb := h.bbT hx hT2
  have HX := Aside0.mk hx
  have HT := Aside0.mk (And.intro hT hT2)
  have HK := Aside0.mk hk
  have HL := Aside0.mk hl
  clear h hx hT hT2 hk hl
  have ES0 : Aside0 (sc_task = ([] : Sc) ++ (sc_task)) := ⟨rfl⟩
  go_enter Tryz.func78, Tryz.ntmps78
  have E1 : Aside0 (sc_task = (([]) ++ (at_ .n [0, 1])) ++ ((at_ .t [2]) ++ (at_ .n [3]) ++ (sc_key (4)) ++ (at_ .t [8]) ++ (at_ .n [9]) ++ (at_ .t [10]))) := ⟨by rw [ES0.out]; first | rfl | simp [sc_task, List.append_assoc]⟩
  have l1 : (bs ++ encAt ([]) vs).length + (encAt (at_ .n [0, 1]) vs).length ≤ 140737488355328 := by
    have z := HL.out
    rw [E1.out, encAt_append, encAt_append] at z
    simp only [List.length_append] at z ⊢
    omega
  have k1 : OkAt (at_ .n [0, 1]) vs := by
    have z := HK.out
    rw [E1.out] at z
    exact z.left.right
  have L1 := Aside0.mk (And.intro l1 k1)
  clear l1 k1
  go_wp2_with (fail)
  first
    | (refine (nums_wc (alloc_below _ _) [0, 1] (cs_alloc _ _ _ _ rfl) H0.out.1 (H0.out.2.cs HX.out HT.out.1 hxb) HT.out.1 HT.out.2 rfl L1.out.2 L1.out.1 (by first | decide | simp)).mono ?_; rintro e x1 ⟨rfl, p1, p2⟩; have H1 : Aside0 (Wr B wb bb (bs ++ encAt (([]) ++ (at_ .n [0, 1])) vs) x1 ∧ Wk B bb w x1) := ⟨by rw [encAt_append, ← List.append_assoc]; exact p1, H0.out.2.trans p2⟩; clear p1 p2)
    | (go_region_held3 (fun _ => True) (trivial) ((go_at_call 59; refine (nums_wc (alloc_drew _ _) [0, 1] (cs_drew _ _ _ _ rfl) H0.out.1 (H0.out.2.cs HX.out HT.out.1 hxb) HT.out.1 HT.out.2 rfl L1.out.2 L1.out.1 (by first | decide | simp)).mono ?_; rintro e x1 ⟨rfl, p1, p2⟩; have H1 : Aside0 (Wr B wb bb (bs ++ encAt (([]) ++ (at_ .n [0, 1])) vs) x1 ∧ Wk B bb w x1) := ⟨by rw [encAt_append, ← List.append_assoc]; exact p1, H0.out.2.trans p2⟩; clear p1 p2)))
    | fail
  have E2 : Aside0 (sc_task = ((([]) ++ (at_ .n [0, 1])) ++ (at_ .t [2])) ++ ((at_ .n [3]) ++ (sc_key (4)) ++ (at_ .t [8]) ++ (at_ .n [9]) ++ (at_ .t [10]))) := ⟨by rw [E1.out]; first | rfl | simp [sc_task, List.append_assoc]⟩
  have l2 : (bs ++ encAt (([]) ++ (at_ .n [0, 1])) vs).length + (encAt (at_ .t [2]) vs).length ≤ 140737488355328 := by
    have z := HL.out
    rw [E2.out, encAt_append, encAt_append] at z
    simp only [List.length_append] at z ⊢
    omega
  have k2 : OkAt (at_ .t [2]) vs := by
    have z := HK.out
    rw [E2.out] at z
    exact z.left.right
  have L2 := Aside0.mk (And.intro l2 k2)
  clear l2 k2
  go_wp2_with (fail)
  first
    | (refine (texts_wc (alloc_below _ _) [2] (cs_alloc _ _ _ _ rfl) H1.out.1 (H1.out.2.cs HX.out HT.out.1 hxb) HT.out.1 HT.out.2 rfl L2.out.2 L2.out.1 (by first | decide | simp)).mono ?_; rintro e x2 ⟨rfl, p1, p2⟩; have H2 : Aside0 (Wr B wb bb (bs ++ encAt ((([]) ++ (at_ .n [0, 1])) ++ (at_ .t [2])) vs) x2 ∧ Wk B bb w x2) := ⟨by rw [encAt_append, ← List.append_assoc]; exact p1, H1.out.2.trans p2⟩; clear p1 p2)
    | (go_region_held3 (fun _ => True) (trivial) ((go_at_call 58; refine (texts_wc (alloc_drew _ _) [2] (cs_drew _ _ _ _ rfl) H1.out.1 (H1.out.2.cs HX.out HT.out.1 hxb) HT.out.1 HT.out.2 rfl L2.out.2 L2.out.1 (by first | decide | simp)).mono ?_; rintro e x2 ⟨rfl, p1, p2⟩; have H2 : Aside0 (Wr B wb bb (bs ++ encAt ((([]) ++ (at_ .n [0, 1])) ++ (at_ .t [2])) vs) x2 ∧ Wk B bb w x2) := ⟨by rw [encAt_append, ← List.append_assoc]; exact p1, H1.out.2.trans p2⟩; clear p1 p2)))
    | fail
  have E3 : Aside0 (sc_task = (((([]) ++ (at_ .n [0, 1])) ++ (at_ .t [2])) ++ (at_ .n [3])) ++ ((sc_key (4)) ++ (at_ .t [8]) ++ (at_ .n [9]) ++ (at_ .t [10]))) := ⟨by rw [E2.out]; first | rfl | simp [sc_task, List.append_assoc]⟩
  have l3 : (bs ++ encAt ((([]) ++ (at_ .n [0, 1])) ++ (at_ .t [2])) vs).length + (encAt (at_ .n [3]) vs).length ≤ 140737488355328 := by
    have z := HL.out
    rw [E3.out, encAt_append, encAt_append] at z
    simp only [List.length_append] at z ⊢
    omega
  have k3 : OkAt (at_ .n [3]) vs := by
    have z := HK.out
    rw [E3.out] at z
    exact z.left.right
  have L3 := Aside0.mk (And.intro l3 k3)
  clear l3 k3
  go_wp2_with (fail)
  first
    | (refine (nums_wc (alloc_below _ _) [3] (cs_alloc _ _ _ _ rfl) H2.out.1 (H2.out.2.cs HX.out HT.out.1 hxb) HT.out.1 HT.out.2 rfl L3.out.2 L3.out.1 (by first | decide | simp)).mono ?_; rintro e x3 ⟨rfl, p1, p2⟩; have H3 : Aside0 (Wr B wb bb (bs ++ encAt (((([]) ++ (at_ .n [0, 1])) ++ (at_ .t [2])) ++ (at_ .n [3])) vs) x3 ∧ Wk B bb w x3) := ⟨by rw [encAt_append, ← List.append_assoc]; exact p1, H2.out.2.trans p2⟩; clear p1 p2)
    | (go_region_held3 (fun _ => True) (trivial) ((go_at_call 59; refine (nums_wc (alloc_drew _ _) [3] (cs_drew _ _ _ _ rfl) H2.out.1 (H2.out.2.cs HX.out HT.out.1 hxb) HT.out.1 HT.out.2 rfl L3.out.2 L3.out.1 (by first | decide | simp)).mono ?_; rintro e x3 ⟨rfl, p1, p2⟩; have H3 : Aside0 (Wr B wb bb (bs ++ encAt (((([]) ++ (at_ .n [0, 1])) ++ (at_ .t [2])) ++ (at_ .n [3])) vs) x3 ∧ Wk B bb w x3) := ⟨by rw [encAt_append, ← List.append_assoc]; exact p1, H2.out.2.trans p2⟩; clear p1 p2)))
    | fail
  have E4 : Aside0 (sc_task = ((((([]) ++ (at_ .n [0, 1])) ++ (at_ .t [2])) ++ (at_ .n [3])) ++ (sc_key (4))) ++ ((at_ .t [8]) ++ (at_ .n [9]) ++ (at_ .t [10]))) := ⟨by rw [E3.out]; first | rfl | simp [sc_task, List.append_assoc]⟩
  have l4 : (bs ++ encAt (((([]) ++ (at_ .n [0, 1])) ++ (at_ .t [2])) ++ (at_ .n [3])) vs).length + (encAt (sc_key (4)) vs).length ≤ 140737488355328 := by
    have z := HL.out
    rw [E4.out, encAt_append, encAt_append] at z
    simp only [List.length_append] at z ⊢
    omega
  have k4 : OkAt (sc_key (4)) vs := by
    have z := HK.out
    rw [E4.out] at z
    exact z.left.right
  have L4 := Aside0.mk (And.intro l4 k4)
  clear l4 k4
  go_wp2_with (fail)
  first
    | (refine (key_w _ _ _ _ (4) _ _ _ _ H3.out.1 (H3.out.2.cs HX.out HT.out.1 hxb) HT.out.1 HT.out.2 L4.out.2 L4.out.1).mono ?_; rintro e x4 ⟨rfl, p1, p2⟩; have H4 : Aside0 (Wr B wb bb (bs ++ encAt ((((([]) ++ (at_ .n [0, 1])) ++ (at_ .t [2])) ++ (at_ .n [3])) ++ (sc_key (4))) vs) x4 ∧ Wk B bb w x4) := ⟨by rw [encAt_append, ← List.append_assoc]; exact p1, H3.out.2.trans p2⟩; clear p1 p2)
    | (go_region_held3 (fun _ => True) (trivial) ((go_at_call 66; refine (key_w _ _ _ _ (4) _ _ _ _ H3.out.1 (H3.out.2.cs HX.out HT.out.1 hxb) HT.out.1 HT.out.2 L4.out.2 L4.out.1).mono ?_; rintro e x4 ⟨rfl, p1, p2⟩; have H4 : Aside0 (Wr B wb bb (bs ++ encAt ((((([]) ++ (at_ .n [0, 1])) ++ (at_ .t [2])) ++ (at_ .n [3])) ++ (sc_key (4))) vs) x4 ∧ Wk B bb w x4) := ⟨by rw [encAt_append, ← List.append_assoc]; exact p1, H3.out.2.trans p2⟩; clear p1 p2)))
    | fail
  have E5 : Aside0 (sc_task = (((((([]) ++ (at_ .n [0, 1])) ++ (at_ .t [2])) ++ (at_ .n [3])) ++ (sc_key (4))) ++ (at_ .t [8])) ++ ((at_ .n [9]) ++ (at_ .t [10]))) := ⟨by rw [E4.out]; first | rfl | simp [sc_task, List.append_assoc]⟩
  have l5 : (bs ++ encAt ((((([]) ++ (at_ .n [0, 1])) ++ (at_ .t [2])) ++ (at_ .n [3])) ++ (sc_key (4))) vs).length + (encAt (at_ .t [8]) vs).length ≤ 140737488355328 := by
    have z := HL.out
    rw [E5.out, encAt_append, encAt_append] at z
    simp only [List.length_append] at z ⊢
    omega
  have k5 : OkAt (at_ .t [8]) vs := by
    have z := HK.out
    rw [E5.out] at z
    exact z.left.right
  have L5 := Aside0.mk (And.intro l5 k5)
  clear l5 k5
  go_wp2_with (fail)
  first
    | (refine (texts_wc (alloc_below _ _) [8] (cs_alloc _ _ _ _ rfl) H4.out.1 (H4.out.2.cs HX.out HT.out.1 hxb) HT.out.1 HT.out.2 rfl L5.out.2 L5.out.1 (by first | decide | simp)).mono ?_; rintro e x5 ⟨rfl, p1, p2⟩; have H5 : Aside0 (Wr B wb bb (bs ++ encAt (((((([]) ++ (at_ .n [0, 1])) ++ (at_ .t [2])) ++ (at_ .n [3])) ++ (sc_key (4))) ++ (at_ .t [8])) vs) x5 ∧ Wk B bb w x5) := ⟨by rw [encAt_append, ← List.append_assoc]; exact p1, H4.out.2.trans p2⟩; clear p1 p2)
    | (go_region_held3 (fun _ => True) (trivial) ((go_at_call 58; refine (texts_wc (alloc_drew _ _) [8] (cs_drew _ _ _ _ rfl) H4.out.1 (H4.out.2.cs HX.out HT.out.1 hxb) HT.out.1 HT.out.2 rfl L5.out.2 L5.out.1 (by first | decide | simp)).mono ?_; rintro e x5 ⟨rfl, p1, p2⟩; have H5 : Aside0 (Wr B wb bb (bs ++ encAt (((((([]) ++ (at_ .n [0, 1])) ++ (at_ .t [2])) ++ (at_ .n [3])) ++ (sc_key (4))) ++ (at_ .t [8])) vs) x5 ∧ Wk B bb w x5) := ⟨by rw [encAt_append, ← List.append_assoc]; exact p1, H4.out.2.trans p2⟩; clear p1 p2)))
    | fail
  have E6 : Aside0 (sc_task = ((((((([]) ++ (at_ .n [0, 1])) ++ (at_ .t [2])) ++ (at_ .n [3])) ++ (sc_key (4))) ++ (at_ .t [8])) ++ (at_ .n [9])) ++ ((at_ .t [10]))) := ⟨by rw [E5.out]; first | rfl | simp [sc_task, List.append_assoc]⟩
  have l6 : (bs ++ encAt (((((([]) ++ (at_ .n [0, 1])) ++ (at_ .t [2])) ++ (at_ .n [3])) ++ (sc_key (4))) ++ (at_ .t [8])) vs).length + (encAt (at_ .n [9]) vs).length ≤ 140737488355328 := by
    have z := HL.out
    rw [E6.out, encAt_append, encAt_append] at z
    simp only [List.length_append] at z ⊢
    omega
  have k6 : OkAt (at_ .n [9]) vs := by
    have z := HK.out
    rw [E6.out] at z
    exact z.left.right
  have L6 := Aside0.mk (And.intro l6 k6)
  clear l6 k6
  go_wp2_with (fail)
  first
    | (refine (nums_wc (alloc_below _ _) [9] (cs_alloc _ _ _ _ rfl) H5.out.1 (H5.out.2.cs HX.out HT.out.1 hxb) HT.out.1 HT.out.2 rfl L6.out.2 L6.out.1 (by first | decide | simp)).mono ?_; rintro e x6 ⟨rfl, p1, p2⟩; have H6 : Aside0 (Wr B wb bb (bs ++ encAt ((((((([]) ++ (at_ .n [0, 1])) ++ (at_ .t [2])) ++ (at_ .n [3])) ++ (sc_key (4))) ++ (at_ .t [8])) ++ (at_ .n [9])) vs) x6 ∧ Wk B bb w x6) := ⟨by rw [encAt_append, ← List.append_assoc]; exact p1, H5.out.2.trans p2⟩; clear p1 p2)
    | (go_region_held3 (fun _ => True) (trivial) ((go_at_call 59; refine (nums_wc (alloc_drew _ _) [9] (cs_drew _ _ _ _ rfl) H5.out.1 (H5.out.2.cs HX.out HT.out.1 hxb) HT.out.1 HT.out.2 rfl L6.out.2 L6.out.1 (by first | decide | simp)).mono ?_; rintro e x6 ⟨rfl, p1, p2⟩; have H6 : Aside0 (Wr B wb bb (bs ++ encAt ((((((([]) ++ (at_ .n [0, 1])) ++ (at_ .t [2])) ++ (at_ .n [3])) ++ (sc_key (4))) ++ (at_ .t [8])) ++ (at_ .n [9])) vs) x6 ∧ Wk B bb w x6) := ⟨by rw [encAt_append, ← List.append_assoc]; exact p1, H5.out.2.trans p2⟩; clear p1 p2)))
    | fail
  have E7 : Aside0 (sc_task = (((((((([]) ++ (at_ .n [0, 1])) ++ (at_ .t [2])) ++ (at_ .n [3])) ++ (sc_key (4))) ++ (at_ .t [8])) ++ (at_ .n [9])) ++ (at_ .t [10])) ++ (([] : Sc))) := ⟨by rw [E6.out]; first | rfl | simp [sc_task, List.append_assoc]⟩
  have l7 : (bs ++ encAt ((((((([]) ++ (at_ .n [0, 1])) ++ (at_ .t [2])) ++ (at_ .n [3])) ++ (sc_key (4))) ++ (at_ .t [8])) ++ (at_ .n [9])) vs).length + (encAt (at_ .t [10]) vs).length ≤ 140737488355328 := by
    have z := HL.out
    rw [E7.out, encAt_append, encAt_append] at z
    simp only [List.length_append] at z ⊢
    omega
  have k7 : OkAt (at_ .t [10]) vs := by
    have z := HK.out
    rw [E7.out] at z
    exact z.left.right
  have L7 := Aside0.mk (And.intro l7 k7)
  clear l7 k7
  go_wp2_with (fail)
  first
    | (refine (texts_wc (alloc_below _ _) [10] (cs_alloc _ _ _ _ rfl) H6.out.1 (H6.out.2.cs HX.out HT.out.1 hxb) HT.out.1 HT.out.2 rfl L7.out.2 L7.out.1 (by first | decide | simp)).mono ?_; rintro e x7 ⟨rfl, p1, p2⟩; have H7 : Aside0 (Wr B wb bb (bs ++ encAt (((((((([]) ++ (at_ .n [0, 1])) ++ (at_ .t [2])) ++ (at_ .n [3])) ++ (sc_key (4))) ++ (at_ .t [8])) ++ (at_ .n [9])) ++ (at_ .t [10])) vs) x7 ∧ Wk B bb w x7) := ⟨by rw [encAt_append, ← List.append_assoc]; exact p1, H6.out.2.trans p2⟩; clear p1 p2)
    | (go_region_held3 (fun _ => True) (trivial) ((go_at_call 58; refine (texts_wc (alloc_drew _ _) [10] (cs_drew _ _ _ _ rfl) H6.out.1 (H6.out.2.cs HX.out HT.out.1 hxb) HT.out.1 HT.out.2 rfl L7.out.2 L7.out.1 (by first | decide | simp)).mono ?_; rintro e x7 ⟨rfl, p1, p2⟩; have H7 : Aside0 (Wr B wb bb (bs ++ encAt (((((((([]) ++ (at_ .n [0, 1])) ++ (at_ .t [2])) ++ (at_ .n [3])) ++ (sc_key (4))) ++ (at_ .t [8])) ++ (at_ .n [9])) ++ (at_ .t [10])) vs) x7 ∧ Wk B bb w x7) := ⟨by rw [encAt_append, ← List.append_assoc]; exact p1, H6.out.2.trans p2⟩; clear p1 p2)))
    | fail
  go_wp2
  go_end0
  have ef : sc_task = ((((((([]) ++ (at_ .n [0, 1])) ++ (at_ .t [2])) ++ (at_ .n [3])) ++ (sc_key (4))) ++ (at_ .t [8])) ++ (at_ .n [9])) ++ (at_ .t [10]) := by first | rfl | simp [sc_task, List.append_assoc]
  exact ⟨rfl, by rw [ef]; exact H7.out.1, H7.out.2⟩
set_option maxHeartbeats 8000000 in
set_option maxRecDepth 100000 in
theorem task_r {wb xb : Nat} {s : Rd} {T : TypeId} {vs : List Value} {w : World} (h : Rw wb s w) (hx : Cs xb T vs w) (hxw : xb ≠ wb) (hj : ∀ x ∈ sc_task, x.2 < vs.length) (hl : s.D.length ≤ 1000000000000) :
    Calls Tryz.prog 78 #[.pointer (some ⟨wb, 0, none⟩), .pointer (some ⟨xb, 0, none⟩)] w (Redd wb xb T (rdAt sc_task (s, vs)) w) := by
  have H0 : Aside0 (Rw wb (rdAt ([]) (s, vs)).1 w ∧ Cs xb T (rdAt ([]) (s, vs)).2 w ∧ Fr (fun i => i = wb ∨ i = xb) w w) := ⟨h, hx, Fr.refl _ _⟩
  have HXW := Aside0.mk hxw
  have HJ := Aside0.mk hj
  have HL := Aside0.mk hl
  clear h hx hxw hj hl
  have ES0 : Aside0 (sc_task = ([] : Sc) ++ (sc_task)) := ⟨rfl⟩
  go_enter Tryz.func78, Tryz.ntmps78
  have E1 : Aside0 (sc_task = (([]) ++ (at_ .n [0, 1])) ++ ((at_ .t [2]) ++ (at_ .n [3]) ++ (sc_key (4)) ++ (at_ .t [8]) ++ (at_ .n [9]) ++ (at_ .t [10]))) := ⟨by rw [ES0.out]; first | rfl | simp [sc_task, List.append_assoc]⟩
  have k1 : ∀ x ∈ (at_ .n [0, 1] : Sc), x.2 < (rdAt ([]) (s, vs)).2.length := fun x hx => by
    rw [(rdAt_len _ _).2]
    refine HJ.out x ?_
    rw [E1.out]
    exact List.mem_append_left _ (List.mem_append_right _ hx)
  have j1 : ∀ j ∈ ([0, 1] : List Nat), j < (rdAt ([]) (s, vs)).2.length := fun j hj => k1 (.n, j) (List.mem_map.2 ⟨j, hj, rfl⟩)
  have L1 := Aside0.mk (And.intro j1 (Nat.le_trans (rdAt_len ([]) (s, vs)).1 HL.out))
  clear k1 j1
  go_wp2_with (fail)
  first
    | (refine (nums_rc (alloc_below _ _) [0, 1] (cs_alloc _ _ _ _ rfl) H0.out.1 H0.out.2.1 HXW.out rfl L1.out.1 L1.out.2 (by first | decide | simp)).mono ?_; rintro e x1 ⟨rfl, p1, p2, p3⟩; have H1 : Aside0 (Rw wb (rdAt (([]) ++ (at_ .n [0, 1])) (s, vs)).1 x1 ∧ Cs xb T (rdAt (([]) ++ (at_ .n [0, 1])) (s, vs)).2 x1 ∧ Fr (fun i => i = wb ∨ i = xb) w x1) := ⟨by rw [rdAt_append]; exact p1, by rw [rdAt_append]; exact p2, H0.out.2.2.trans p3 fun i hi => .inl hi⟩; clear p1 p2 p3)
    | (go_region_held3 (fun _ => True) (trivial) ((go_at_call 59; refine (nums_rc (alloc_drew _ _) [0, 1] (cs_drew _ _ _ _ rfl) H0.out.1 H0.out.2.1 HXW.out rfl L1.out.1 L1.out.2 (by first | decide | simp)).mono ?_; rintro e x1 ⟨rfl, p1, p2, p3⟩; have H1 : Aside0 (Rw wb (rdAt (([]) ++ (at_ .n [0, 1])) (s, vs)).1 x1 ∧ Cs xb T (rdAt (([]) ++ (at_ .n [0, 1])) (s, vs)).2 x1 ∧ Fr (fun i => i = wb ∨ i = xb) w x1) := ⟨by rw [rdAt_append]; exact p1, by rw [rdAt_append]; exact p2, H0.out.2.2.trans p3 fun i hi => .inl hi⟩; clear p1 p2 p3)))
    | fail
  have E2 : Aside0 (sc_task = ((([]) ++ (at_ .n [0, 1])) ++ (at_ .t [2])) ++ ((at_ .n [3]) ++ (sc_key (4)) ++ (at_ .t [8]) ++ (at_ .n [9]) ++ (at_ .t [10]))) := ⟨by rw [E1.out]; first | rfl | simp [sc_task, List.append_assoc]⟩
  have k2 : ∀ x ∈ (at_ .t [2] : Sc), x.2 < (rdAt (([]) ++ (at_ .n [0, 1])) (s, vs)).2.length := fun x hx => by
    rw [(rdAt_len _ _).2]
    refine HJ.out x ?_
    rw [E2.out]
    exact List.mem_append_left _ (List.mem_append_right _ hx)
  have j2 : ∀ j ∈ ([2] : List Nat), j < (rdAt (([]) ++ (at_ .n [0, 1])) (s, vs)).2.length := fun j hj => k2 (.t, j) (List.mem_map.2 ⟨j, hj, rfl⟩)
  have L2 := Aside0.mk (And.intro j2 (Nat.le_trans (rdAt_len (([]) ++ (at_ .n [0, 1])) (s, vs)).1 HL.out))
  clear k2 j2
  go_wp2_with (fail)
  first
    | (refine (texts_rc (alloc_below _ _) [2] (cs_alloc _ _ _ _ rfl) H1.out.1 H1.out.2.1 HXW.out rfl L2.out.1 L2.out.2 (by first | decide | simp)).mono ?_; rintro e x2 ⟨rfl, p1, p2, p3⟩; have H2 : Aside0 (Rw wb (rdAt ((([]) ++ (at_ .n [0, 1])) ++ (at_ .t [2])) (s, vs)).1 x2 ∧ Cs xb T (rdAt ((([]) ++ (at_ .n [0, 1])) ++ (at_ .t [2])) (s, vs)).2 x2 ∧ Fr (fun i => i = wb ∨ i = xb) w x2) := ⟨by rw [rdAt_append]; exact p1, by rw [rdAt_append]; exact p2, H1.out.2.2.trans p3 fun i hi => .inl hi⟩; clear p1 p2 p3)
    | (go_region_held3 (fun _ => True) (trivial) ((go_at_call 58; refine (texts_rc (alloc_drew _ _) [2] (cs_drew _ _ _ _ rfl) H1.out.1 H1.out.2.1 HXW.out rfl L2.out.1 L2.out.2 (by first | decide | simp)).mono ?_; rintro e x2 ⟨rfl, p1, p2, p3⟩; have H2 : Aside0 (Rw wb (rdAt ((([]) ++ (at_ .n [0, 1])) ++ (at_ .t [2])) (s, vs)).1 x2 ∧ Cs xb T (rdAt ((([]) ++ (at_ .n [0, 1])) ++ (at_ .t [2])) (s, vs)).2 x2 ∧ Fr (fun i => i = wb ∨ i = xb) w x2) := ⟨by rw [rdAt_append]; exact p1, by rw [rdAt_append]; exact p2, H1.out.2.2.trans p3 fun i hi => .inl hi⟩; clear p1 p2 p3)))
    | fail
  have E3 : Aside0 (sc_task = (((([]) ++ (at_ .n [0, 1])) ++ (at_ .t [2])) ++ (at_ .n [3])) ++ ((sc_key (4)) ++ (at_ .t [8]) ++ (at_ .n [9]) ++ (at_ .t [10]))) := ⟨by rw [E2.out]; first | rfl | simp [sc_task, List.append_assoc]⟩
  have k3 : ∀ x ∈ (at_ .n [3] : Sc), x.2 < (rdAt ((([]) ++ (at_ .n [0, 1])) ++ (at_ .t [2])) (s, vs)).2.length := fun x hx => by
    rw [(rdAt_len _ _).2]
    refine HJ.out x ?_
    rw [E3.out]
    exact List.mem_append_left _ (List.mem_append_right _ hx)
  have j3 : ∀ j ∈ ([3] : List Nat), j < (rdAt ((([]) ++ (at_ .n [0, 1])) ++ (at_ .t [2])) (s, vs)).2.length := fun j hj => k3 (.n, j) (List.mem_map.2 ⟨j, hj, rfl⟩)
  have L3 := Aside0.mk (And.intro j3 (Nat.le_trans (rdAt_len ((([]) ++ (at_ .n [0, 1])) ++ (at_ .t [2])) (s, vs)).1 HL.out))
  clear k3 j3
  go_wp2_with (fail)
  first
    | (refine (nums_rc (alloc_below _ _) [3] (cs_alloc _ _ _ _ rfl) H2.out.1 H2.out.2.1 HXW.out rfl L3.out.1 L3.out.2 (by first | decide | simp)).mono ?_; rintro e x3 ⟨rfl, p1, p2, p3⟩; have H3 : Aside0 (Rw wb (rdAt (((([]) ++ (at_ .n [0, 1])) ++ (at_ .t [2])) ++ (at_ .n [3])) (s, vs)).1 x3 ∧ Cs xb T (rdAt (((([]) ++ (at_ .n [0, 1])) ++ (at_ .t [2])) ++ (at_ .n [3])) (s, vs)).2 x3 ∧ Fr (fun i => i = wb ∨ i = xb) w x3) := ⟨by rw [rdAt_append]; exact p1, by rw [rdAt_append]; exact p2, H2.out.2.2.trans p3 fun i hi => .inl hi⟩; clear p1 p2 p3)
    | (go_region_held3 (fun _ => True) (trivial) ((go_at_call 59; refine (nums_rc (alloc_drew _ _) [3] (cs_drew _ _ _ _ rfl) H2.out.1 H2.out.2.1 HXW.out rfl L3.out.1 L3.out.2 (by first | decide | simp)).mono ?_; rintro e x3 ⟨rfl, p1, p2, p3⟩; have H3 : Aside0 (Rw wb (rdAt (((([]) ++ (at_ .n [0, 1])) ++ (at_ .t [2])) ++ (at_ .n [3])) (s, vs)).1 x3 ∧ Cs xb T (rdAt (((([]) ++ (at_ .n [0, 1])) ++ (at_ .t [2])) ++ (at_ .n [3])) (s, vs)).2 x3 ∧ Fr (fun i => i = wb ∨ i = xb) w x3) := ⟨by rw [rdAt_append]; exact p1, by rw [rdAt_append]; exact p2, H2.out.2.2.trans p3 fun i hi => .inl hi⟩; clear p1 p2 p3)))
    | fail
  have E4 : Aside0 (sc_task = ((((([]) ++ (at_ .n [0, 1])) ++ (at_ .t [2])) ++ (at_ .n [3])) ++ (sc_key (4))) ++ ((at_ .t [8]) ++ (at_ .n [9]) ++ (at_ .t [10]))) := ⟨by rw [E3.out]; first | rfl | simp [sc_task, List.append_assoc]⟩
  have k4 : ∀ x ∈ (sc_key (4) : Sc), x.2 < (rdAt (((([]) ++ (at_ .n [0, 1])) ++ (at_ .t [2])) ++ (at_ .n [3])) (s, vs)).2.length := fun x hx => by
    rw [(rdAt_len _ _).2]
    refine HJ.out x ?_
    rw [E4.out]
    exact List.mem_append_left _ (List.mem_append_right _ hx)
  have j4 := k4
  have L4 := Aside0.mk (And.intro j4 (Nat.le_trans (rdAt_len (((([]) ++ (at_ .n [0, 1])) ++ (at_ .t [2])) ++ (at_ .n [3])) (s, vs)).1 HL.out))
  clear k4 j4
  go_wp2_with (fail)
  first
    | (refine (key_r _ _ (4) _ _ _ _ H3.out.1 H3.out.2.1 HXW.out L4.out.1 L4.out.2).mono ?_; rintro e x4 ⟨rfl, p1, p2, p3⟩; have H4 : Aside0 (Rw wb (rdAt ((((([]) ++ (at_ .n [0, 1])) ++ (at_ .t [2])) ++ (at_ .n [3])) ++ (sc_key (4))) (s, vs)).1 x4 ∧ Cs xb T (rdAt ((((([]) ++ (at_ .n [0, 1])) ++ (at_ .t [2])) ++ (at_ .n [3])) ++ (sc_key (4))) (s, vs)).2 x4 ∧ Fr (fun i => i = wb ∨ i = xb) w x4) := ⟨by rw [rdAt_append]; exact p1, by rw [rdAt_append]; exact p2, H3.out.2.2.trans p3 fun i hi => .inl hi⟩; clear p1 p2 p3)
    | (go_region_held3 (fun _ => True) (trivial) ((go_at_call 66; refine (key_r _ _ (4) _ _ _ _ H3.out.1 H3.out.2.1 HXW.out L4.out.1 L4.out.2).mono ?_; rintro e x4 ⟨rfl, p1, p2, p3⟩; have H4 : Aside0 (Rw wb (rdAt ((((([]) ++ (at_ .n [0, 1])) ++ (at_ .t [2])) ++ (at_ .n [3])) ++ (sc_key (4))) (s, vs)).1 x4 ∧ Cs xb T (rdAt ((((([]) ++ (at_ .n [0, 1])) ++ (at_ .t [2])) ++ (at_ .n [3])) ++ (sc_key (4))) (s, vs)).2 x4 ∧ Fr (fun i => i = wb ∨ i = xb) w x4) := ⟨by rw [rdAt_append]; exact p1, by rw [rdAt_append]; exact p2, H3.out.2.2.trans p3 fun i hi => .inl hi⟩; clear p1 p2 p3)))
    | fail
  have E5 : Aside0 (sc_task = (((((([]) ++ (at_ .n [0, 1])) ++ (at_ .t [2])) ++ (at_ .n [3])) ++ (sc_key (4))) ++ (at_ .t [8])) ++ ((at_ .n [9]) ++ (at_ .t [10]))) := ⟨by rw [E4.out]; first | rfl | simp [sc_task, List.append_assoc]⟩
  have k5 : ∀ x ∈ (at_ .t [8] : Sc), x.2 < (rdAt ((((([]) ++ (at_ .n [0, 1])) ++ (at_ .t [2])) ++ (at_ .n [3])) ++ (sc_key (4))) (s, vs)).2.length := fun x hx => by
    rw [(rdAt_len _ _).2]
    refine HJ.out x ?_
    rw [E5.out]
    exact List.mem_append_left _ (List.mem_append_right _ hx)
  have j5 : ∀ j ∈ ([8] : List Nat), j < (rdAt ((((([]) ++ (at_ .n [0, 1])) ++ (at_ .t [2])) ++ (at_ .n [3])) ++ (sc_key (4))) (s, vs)).2.length := fun j hj => k5 (.t, j) (List.mem_map.2 ⟨j, hj, rfl⟩)
  have L5 := Aside0.mk (And.intro j5 (Nat.le_trans (rdAt_len ((((([]) ++ (at_ .n [0, 1])) ++ (at_ .t [2])) ++ (at_ .n [3])) ++ (sc_key (4))) (s, vs)).1 HL.out))
  clear k5 j5
  go_wp2_with (fail)
  first
    | (refine (texts_rc (alloc_below _ _) [8] (cs_alloc _ _ _ _ rfl) H4.out.1 H4.out.2.1 HXW.out rfl L5.out.1 L5.out.2 (by first | decide | simp)).mono ?_; rintro e x5 ⟨rfl, p1, p2, p3⟩; have H5 : Aside0 (Rw wb (rdAt (((((([]) ++ (at_ .n [0, 1])) ++ (at_ .t [2])) ++ (at_ .n [3])) ++ (sc_key (4))) ++ (at_ .t [8])) (s, vs)).1 x5 ∧ Cs xb T (rdAt (((((([]) ++ (at_ .n [0, 1])) ++ (at_ .t [2])) ++ (at_ .n [3])) ++ (sc_key (4))) ++ (at_ .t [8])) (s, vs)).2 x5 ∧ Fr (fun i => i = wb ∨ i = xb) w x5) := ⟨by rw [rdAt_append]; exact p1, by rw [rdAt_append]; exact p2, H4.out.2.2.trans p3 fun i hi => .inl hi⟩; clear p1 p2 p3)
    | (go_region_held3 (fun _ => True) (trivial) ((go_at_call 58; refine (texts_rc (alloc_drew _ _) [8] (cs_drew _ _ _ _ rfl) H4.out.1 H4.out.2.1 HXW.out rfl L5.out.1 L5.out.2 (by first | decide | simp)).mono ?_; rintro e x5 ⟨rfl, p1, p2, p3⟩; have H5 : Aside0 (Rw wb (rdAt (((((([]) ++ (at_ .n [0, 1])) ++ (at_ .t [2])) ++ (at_ .n [3])) ++ (sc_key (4))) ++ (at_ .t [8])) (s, vs)).1 x5 ∧ Cs xb T (rdAt (((((([]) ++ (at_ .n [0, 1])) ++ (at_ .t [2])) ++ (at_ .n [3])) ++ (sc_key (4))) ++ (at_ .t [8])) (s, vs)).2 x5 ∧ Fr (fun i => i = wb ∨ i = xb) w x5) := ⟨by rw [rdAt_append]; exact p1, by rw [rdAt_append]; exact p2, H4.out.2.2.trans p3 fun i hi => .inl hi⟩; clear p1 p2 p3)))
    | fail
  have E6 : Aside0 (sc_task = ((((((([]) ++ (at_ .n [0, 1])) ++ (at_ .t [2])) ++ (at_ .n [3])) ++ (sc_key (4))) ++ (at_ .t [8])) ++ (at_ .n [9])) ++ ((at_ .t [10]))) := ⟨by rw [E5.out]; first | rfl | simp [sc_task, List.append_assoc]⟩
  have k6 : ∀ x ∈ (at_ .n [9] : Sc), x.2 < (rdAt (((((([]) ++ (at_ .n [0, 1])) ++ (at_ .t [2])) ++ (at_ .n [3])) ++ (sc_key (4))) ++ (at_ .t [8])) (s, vs)).2.length := fun x hx => by
    rw [(rdAt_len _ _).2]
    refine HJ.out x ?_
    rw [E6.out]
    exact List.mem_append_left _ (List.mem_append_right _ hx)
  have j6 : ∀ j ∈ ([9] : List Nat), j < (rdAt (((((([]) ++ (at_ .n [0, 1])) ++ (at_ .t [2])) ++ (at_ .n [3])) ++ (sc_key (4))) ++ (at_ .t [8])) (s, vs)).2.length := fun j hj => k6 (.n, j) (List.mem_map.2 ⟨j, hj, rfl⟩)
  have L6 := Aside0.mk (And.intro j6 (Nat.le_trans (rdAt_len (((((([]) ++ (at_ .n [0, 1])) ++ (at_ .t [2])) ++ (at_ .n [3])) ++ (sc_key (4))) ++ (at_ .t [8])) (s, vs)).1 HL.out))
  clear k6 j6
  go_wp2_with (fail)
  first
    | (refine (nums_rc (alloc_below _ _) [9] (cs_alloc _ _ _ _ rfl) H5.out.1 H5.out.2.1 HXW.out rfl L6.out.1 L6.out.2 (by first | decide | simp)).mono ?_; rintro e x6 ⟨rfl, p1, p2, p3⟩; have H6 : Aside0 (Rw wb (rdAt ((((((([]) ++ (at_ .n [0, 1])) ++ (at_ .t [2])) ++ (at_ .n [3])) ++ (sc_key (4))) ++ (at_ .t [8])) ++ (at_ .n [9])) (s, vs)).1 x6 ∧ Cs xb T (rdAt ((((((([]) ++ (at_ .n [0, 1])) ++ (at_ .t [2])) ++ (at_ .n [3])) ++ (sc_key (4))) ++ (at_ .t [8])) ++ (at_ .n [9])) (s, vs)).2 x6 ∧ Fr (fun i => i = wb ∨ i = xb) w x6) := ⟨by rw [rdAt_append]; exact p1, by rw [rdAt_append]; exact p2, H5.out.2.2.trans p3 fun i hi => .inl hi⟩; clear p1 p2 p3)
    | (go_region_held3 (fun _ => True) (trivial) ((go_at_call 59; refine (nums_rc (alloc_drew _ _) [9] (cs_drew _ _ _ _ rfl) H5.out.1 H5.out.2.1 HXW.out rfl L6.out.1 L6.out.2 (by first | decide | simp)).mono ?_; rintro e x6 ⟨rfl, p1, p2, p3⟩; have H6 : Aside0 (Rw wb (rdAt ((((((([]) ++ (at_ .n [0, 1])) ++ (at_ .t [2])) ++ (at_ .n [3])) ++ (sc_key (4))) ++ (at_ .t [8])) ++ (at_ .n [9])) (s, vs)).1 x6 ∧ Cs xb T (rdAt ((((((([]) ++ (at_ .n [0, 1])) ++ (at_ .t [2])) ++ (at_ .n [3])) ++ (sc_key (4))) ++ (at_ .t [8])) ++ (at_ .n [9])) (s, vs)).2 x6 ∧ Fr (fun i => i = wb ∨ i = xb) w x6) := ⟨by rw [rdAt_append]; exact p1, by rw [rdAt_append]; exact p2, H5.out.2.2.trans p3 fun i hi => .inl hi⟩; clear p1 p2 p3)))
    | fail
  have E7 : Aside0 (sc_task = (((((((([]) ++ (at_ .n [0, 1])) ++ (at_ .t [2])) ++ (at_ .n [3])) ++ (sc_key (4))) ++ (at_ .t [8])) ++ (at_ .n [9])) ++ (at_ .t [10])) ++ (([] : Sc))) := ⟨by rw [E6.out]; first | rfl | simp [sc_task, List.append_assoc]⟩
  have k7 : ∀ x ∈ (at_ .t [10] : Sc), x.2 < (rdAt ((((((([]) ++ (at_ .n [0, 1])) ++ (at_ .t [2])) ++ (at_ .n [3])) ++ (sc_key (4))) ++ (at_ .t [8])) ++ (at_ .n [9])) (s, vs)).2.length := fun x hx => by
    rw [(rdAt_len _ _).2]
    refine HJ.out x ?_
    rw [E7.out]
    exact List.mem_append_left _ (List.mem_append_right _ hx)
  have j7 : ∀ j ∈ ([10] : List Nat), j < (rdAt ((((((([]) ++ (at_ .n [0, 1])) ++ (at_ .t [2])) ++ (at_ .n [3])) ++ (sc_key (4))) ++ (at_ .t [8])) ++ (at_ .n [9])) (s, vs)).2.length := fun j hj => k7 (.t, j) (List.mem_map.2 ⟨j, hj, rfl⟩)
  have L7 := Aside0.mk (And.intro j7 (Nat.le_trans (rdAt_len ((((((([]) ++ (at_ .n [0, 1])) ++ (at_ .t [2])) ++ (at_ .n [3])) ++ (sc_key (4))) ++ (at_ .t [8])) ++ (at_ .n [9])) (s, vs)).1 HL.out))
  clear k7 j7
  go_wp2_with (fail)
  first
    | (refine (texts_rc (alloc_below _ _) [10] (cs_alloc _ _ _ _ rfl) H6.out.1 H6.out.2.1 HXW.out rfl L7.out.1 L7.out.2 (by first | decide | simp)).mono ?_; rintro e x7 ⟨rfl, p1, p2, p3⟩; have H7 : Aside0 (Rw wb (rdAt (((((((([]) ++ (at_ .n [0, 1])) ++ (at_ .t [2])) ++ (at_ .n [3])) ++ (sc_key (4))) ++ (at_ .t [8])) ++ (at_ .n [9])) ++ (at_ .t [10])) (s, vs)).1 x7 ∧ Cs xb T (rdAt (((((((([]) ++ (at_ .n [0, 1])) ++ (at_ .t [2])) ++ (at_ .n [3])) ++ (sc_key (4))) ++ (at_ .t [8])) ++ (at_ .n [9])) ++ (at_ .t [10])) (s, vs)).2 x7 ∧ Fr (fun i => i = wb ∨ i = xb) w x7) := ⟨by rw [rdAt_append]; exact p1, by rw [rdAt_append]; exact p2, H6.out.2.2.trans p3 fun i hi => .inl hi⟩; clear p1 p2 p3)
    | (go_region_held3 (fun _ => True) (trivial) ((go_at_call 58; refine (texts_rc (alloc_drew _ _) [10] (cs_drew _ _ _ _ rfl) H6.out.1 H6.out.2.1 HXW.out rfl L7.out.1 L7.out.2 (by first | decide | simp)).mono ?_; rintro e x7 ⟨rfl, p1, p2, p3⟩; have H7 : Aside0 (Rw wb (rdAt (((((((([]) ++ (at_ .n [0, 1])) ++ (at_ .t [2])) ++ (at_ .n [3])) ++ (sc_key (4))) ++ (at_ .t [8])) ++ (at_ .n [9])) ++ (at_ .t [10])) (s, vs)).1 x7 ∧ Cs xb T (rdAt (((((((([]) ++ (at_ .n [0, 1])) ++ (at_ .t [2])) ++ (at_ .n [3])) ++ (sc_key (4))) ++ (at_ .t [8])) ++ (at_ .n [9])) ++ (at_ .t [10])) (s, vs)).2 x7 ∧ Fr (fun i => i = wb ∨ i = xb) w x7) := ⟨by rw [rdAt_append]; exact p1, by rw [rdAt_append]; exact p2, H6.out.2.2.trans p3 fun i hi => .inl hi⟩; clear p1 p2 p3)))
    | fail
  go_wp2
  go_end0
  have ef : sc_task = ((((((([]) ++ (at_ .n [0, 1])) ++ (at_ .t [2])) ++ (at_ .n [3])) ++ (sc_key (4))) ++ (at_ .t [8])) ++ (at_ .n [9])) ++ (at_ .t [10]) := by first | rfl | simp [sc_task, List.append_assoc]
  rw [ef]
  exact ⟨rfl, H7.out⟩
def sc_parcel : Sc := (at_ .t [0, 1])
set_option maxHeartbeats 8000000 in
set_option maxRecDepth 100000 in
theorem parcel_w {B wb bb xb : Nat} {bs : List UInt8} {T : TypeId} {vs : List Value} {w : World} (h : Wr B wb bb bs w) (hx : Cs xb T vs w) (hT : T ≠ 5) (hT2 : T ≠ 108) (hk : OkAt sc_parcel vs) (hl : bs.length + (encAt sc_parcel vs).length ≤ 140737488355328) :
    Calls Tryz.prog 80 #[.pointer (some ⟨wb, 0, none⟩), .pointer (some ⟨xb, 0, none⟩)] w (Writ B wb bb (bs ++ encAt sc_parcel vs) w) := by
  have H0 : Aside0 (Wr B wb bb (bs ++ encAt ([]) vs) w ∧ Wk B bb w w) := ⟨by simpa [encAt] using h, Wk.refl _ _ _⟩
  have hxb : xb ≠ bb := h.bbT hx hT2
  have HX := Aside0.mk hx
  have HT := Aside0.mk (And.intro hT hT2)
  have HK := Aside0.mk hk
  have HL := Aside0.mk hl
  clear h hx hT hT2 hk hl
  have ES0 : Aside0 (sc_parcel = ([] : Sc) ++ (sc_parcel)) := ⟨rfl⟩
  go_enter Tryz.func80, Tryz.ntmps80
  have E1 : Aside0 (sc_parcel = (([]) ++ (at_ .t [0, 1])) ++ (([] : Sc))) := ⟨by rw [ES0.out]; first | rfl | simp [sc_parcel, List.append_assoc]⟩
  have l1 : (bs ++ encAt ([]) vs).length + (encAt (at_ .t [0, 1]) vs).length ≤ 140737488355328 := by
    have z := HL.out
    rw [E1.out, encAt_append, encAt_append] at z
    simp only [List.length_append] at z ⊢
    omega
  have k1 : OkAt (at_ .t [0, 1]) vs := by
    have z := HK.out
    rw [E1.out] at z
    exact z.left.right
  have L1 := Aside0.mk (And.intro l1 k1)
  clear l1 k1
  go_wp2_with (fail)
  first
    | (refine (texts_wc (alloc_below _ _) [0, 1] (cs_alloc _ _ _ _ rfl) H0.out.1 (H0.out.2.cs HX.out HT.out.1 hxb) HT.out.1 HT.out.2 rfl L1.out.2 L1.out.1 (by first | decide | simp)).mono ?_; rintro e x1 ⟨rfl, p1, p2⟩; have H1 : Aside0 (Wr B wb bb (bs ++ encAt (([]) ++ (at_ .t [0, 1])) vs) x1 ∧ Wk B bb w x1) := ⟨by rw [encAt_append, ← List.append_assoc]; exact p1, H0.out.2.trans p2⟩; clear p1 p2)
    | (go_region_held3 (fun _ => True) (trivial) ((go_at_call 58; refine (texts_wc (alloc_drew _ _) [0, 1] (cs_drew _ _ _ _ rfl) H0.out.1 (H0.out.2.cs HX.out HT.out.1 hxb) HT.out.1 HT.out.2 rfl L1.out.2 L1.out.1 (by first | decide | simp)).mono ?_; rintro e x1 ⟨rfl, p1, p2⟩; have H1 : Aside0 (Wr B wb bb (bs ++ encAt (([]) ++ (at_ .t [0, 1])) vs) x1 ∧ Wk B bb w x1) := ⟨by rw [encAt_append, ← List.append_assoc]; exact p1, H0.out.2.trans p2⟩; clear p1 p2)))
    | fail
  go_wp2
  go_end0
  have ef : sc_parcel = ([]) ++ (at_ .t [0, 1]) := by first | rfl | simp [sc_parcel, List.append_assoc]
  exact ⟨rfl, by rw [ef]; exact H1.out.1, H1.out.2⟩
set_option maxHeartbeats 8000000 in
set_option maxRecDepth 100000 in
theorem parcel_r {wb xb : Nat} {s : Rd} {T : TypeId} {vs : List Value} {w : World} (h : Rw wb s w) (hx : Cs xb T vs w) (hxw : xb ≠ wb) (hj : ∀ x ∈ sc_parcel, x.2 < vs.length) (hl : s.D.length ≤ 1000000000000) :
    Calls Tryz.prog 80 #[.pointer (some ⟨wb, 0, none⟩), .pointer (some ⟨xb, 0, none⟩)] w (Redd wb xb T (rdAt sc_parcel (s, vs)) w) := by
  have H0 : Aside0 (Rw wb (rdAt ([]) (s, vs)).1 w ∧ Cs xb T (rdAt ([]) (s, vs)).2 w ∧ Fr (fun i => i = wb ∨ i = xb) w w) := ⟨h, hx, Fr.refl _ _⟩
  have HXW := Aside0.mk hxw
  have HJ := Aside0.mk hj
  have HL := Aside0.mk hl
  clear h hx hxw hj hl
  have ES0 : Aside0 (sc_parcel = ([] : Sc) ++ (sc_parcel)) := ⟨rfl⟩
  go_enter Tryz.func80, Tryz.ntmps80
  have E1 : Aside0 (sc_parcel = (([]) ++ (at_ .t [0, 1])) ++ (([] : Sc))) := ⟨by rw [ES0.out]; first | rfl | simp [sc_parcel, List.append_assoc]⟩
  have k1 : ∀ x ∈ (at_ .t [0, 1] : Sc), x.2 < (rdAt ([]) (s, vs)).2.length := fun x hx => by
    rw [(rdAt_len _ _).2]
    refine HJ.out x ?_
    rw [E1.out]
    exact List.mem_append_left _ (List.mem_append_right _ hx)
  have j1 : ∀ j ∈ ([0, 1] : List Nat), j < (rdAt ([]) (s, vs)).2.length := fun j hj => k1 (.t, j) (List.mem_map.2 ⟨j, hj, rfl⟩)
  have L1 := Aside0.mk (And.intro j1 (Nat.le_trans (rdAt_len ([]) (s, vs)).1 HL.out))
  clear k1 j1
  go_wp2_with (fail)
  first
    | (refine (texts_rc (alloc_below _ _) [0, 1] (cs_alloc _ _ _ _ rfl) H0.out.1 H0.out.2.1 HXW.out rfl L1.out.1 L1.out.2 (by first | decide | simp)).mono ?_; rintro e x1 ⟨rfl, p1, p2, p3⟩; have H1 : Aside0 (Rw wb (rdAt (([]) ++ (at_ .t [0, 1])) (s, vs)).1 x1 ∧ Cs xb T (rdAt (([]) ++ (at_ .t [0, 1])) (s, vs)).2 x1 ∧ Fr (fun i => i = wb ∨ i = xb) w x1) := ⟨by rw [rdAt_append]; exact p1, by rw [rdAt_append]; exact p2, H0.out.2.2.trans p3 fun i hi => .inl hi⟩; clear p1 p2 p3)
    | (go_region_held3 (fun _ => True) (trivial) ((go_at_call 58; refine (texts_rc (alloc_drew _ _) [0, 1] (cs_drew _ _ _ _ rfl) H0.out.1 H0.out.2.1 HXW.out rfl L1.out.1 L1.out.2 (by first | decide | simp)).mono ?_; rintro e x1 ⟨rfl, p1, p2, p3⟩; have H1 : Aside0 (Rw wb (rdAt (([]) ++ (at_ .t [0, 1])) (s, vs)).1 x1 ∧ Cs xb T (rdAt (([]) ++ (at_ .t [0, 1])) (s, vs)).2 x1 ∧ Fr (fun i => i = wb ∨ i = xb) w x1) := ⟨by rw [rdAt_append]; exact p1, by rw [rdAt_append]; exact p2, H0.out.2.2.trans p3 fun i hi => .inl hi⟩; clear p1 p2 p3)))
    | fail
  go_wp2
  go_end0
  have ef : sc_parcel = ([]) ++ (at_ .t [0, 1]) := by first | rfl | simp [sc_parcel, List.append_assoc]
  rw [ef]
  exact ⟨rfl, H1.out⟩
def sc_sent : Sc := (at_ .t [0, 1, 2]) ++ (at_ .n [3, 4])
set_option maxHeartbeats 8000000 in
set_option maxRecDepth 100000 in
theorem sent_w {B wb bb xb : Nat} {bs : List UInt8} {T : TypeId} {vs : List Value} {w : World} (h : Wr B wb bb bs w) (hx : Cs xb T vs w) (hT : T ≠ 5) (hT2 : T ≠ 108) (hk : OkAt sc_sent vs) (hl : bs.length + (encAt sc_sent vs).length ≤ 140737488355328) :
    Calls Tryz.prog 82 #[.pointer (some ⟨wb, 0, none⟩), .pointer (some ⟨xb, 0, none⟩)] w (Writ B wb bb (bs ++ encAt sc_sent vs) w) := by
  have H0 : Aside0 (Wr B wb bb (bs ++ encAt ([]) vs) w ∧ Wk B bb w w) := ⟨by simpa [encAt] using h, Wk.refl _ _ _⟩
  have hxb : xb ≠ bb := h.bbT hx hT2
  have HX := Aside0.mk hx
  have HT := Aside0.mk (And.intro hT hT2)
  have HK := Aside0.mk hk
  have HL := Aside0.mk hl
  clear h hx hT hT2 hk hl
  have ES0 : Aside0 (sc_sent = ([] : Sc) ++ (sc_sent)) := ⟨rfl⟩
  go_enter Tryz.func82, Tryz.ntmps82
  have E1 : Aside0 (sc_sent = (([]) ++ (at_ .t [0, 1, 2])) ++ ((at_ .n [3, 4]))) := ⟨by rw [ES0.out]; first | rfl | simp [sc_sent, List.append_assoc]⟩
  have l1 : (bs ++ encAt ([]) vs).length + (encAt (at_ .t [0, 1, 2]) vs).length ≤ 140737488355328 := by
    have z := HL.out
    rw [E1.out, encAt_append, encAt_append] at z
    simp only [List.length_append] at z ⊢
    omega
  have k1 : OkAt (at_ .t [0, 1, 2]) vs := by
    have z := HK.out
    rw [E1.out] at z
    exact z.left.right
  have L1 := Aside0.mk (And.intro l1 k1)
  clear l1 k1
  go_wp2_with (fail)
  first
    | (refine (texts_wc (alloc_below _ _) [0, 1, 2] (cs_alloc _ _ _ _ rfl) H0.out.1 (H0.out.2.cs HX.out HT.out.1 hxb) HT.out.1 HT.out.2 rfl L1.out.2 L1.out.1 (by first | decide | simp)).mono ?_; rintro e x1 ⟨rfl, p1, p2⟩; have H1 : Aside0 (Wr B wb bb (bs ++ encAt (([]) ++ (at_ .t [0, 1, 2])) vs) x1 ∧ Wk B bb w x1) := ⟨by rw [encAt_append, ← List.append_assoc]; exact p1, H0.out.2.trans p2⟩; clear p1 p2)
    | (go_region_held3 (fun _ => True) (trivial) ((go_at_call 58; refine (texts_wc (alloc_drew _ _) [0, 1, 2] (cs_drew _ _ _ _ rfl) H0.out.1 (H0.out.2.cs HX.out HT.out.1 hxb) HT.out.1 HT.out.2 rfl L1.out.2 L1.out.1 (by first | decide | simp)).mono ?_; rintro e x1 ⟨rfl, p1, p2⟩; have H1 : Aside0 (Wr B wb bb (bs ++ encAt (([]) ++ (at_ .t [0, 1, 2])) vs) x1 ∧ Wk B bb w x1) := ⟨by rw [encAt_append, ← List.append_assoc]; exact p1, H0.out.2.trans p2⟩; clear p1 p2)))
    | fail
  have E2 : Aside0 (sc_sent = ((([]) ++ (at_ .t [0, 1, 2])) ++ (at_ .n [3, 4])) ++ (([] : Sc))) := ⟨by rw [E1.out]; first | rfl | simp [sc_sent, List.append_assoc]⟩
  have l2 : (bs ++ encAt (([]) ++ (at_ .t [0, 1, 2])) vs).length + (encAt (at_ .n [3, 4]) vs).length ≤ 140737488355328 := by
    have z := HL.out
    rw [E2.out, encAt_append, encAt_append] at z
    simp only [List.length_append] at z ⊢
    omega
  have k2 : OkAt (at_ .n [3, 4]) vs := by
    have z := HK.out
    rw [E2.out] at z
    exact z.left.right
  have L2 := Aside0.mk (And.intro l2 k2)
  clear l2 k2
  go_wp2_with (fail)
  first
    | (refine (nums_wc (alloc_below _ _) [3, 4] (cs_alloc _ _ _ _ rfl) H1.out.1 (H1.out.2.cs HX.out HT.out.1 hxb) HT.out.1 HT.out.2 rfl L2.out.2 L2.out.1 (by first | decide | simp)).mono ?_; rintro e x2 ⟨rfl, p1, p2⟩; have H2 : Aside0 (Wr B wb bb (bs ++ encAt ((([]) ++ (at_ .t [0, 1, 2])) ++ (at_ .n [3, 4])) vs) x2 ∧ Wk B bb w x2) := ⟨by rw [encAt_append, ← List.append_assoc]; exact p1, H1.out.2.trans p2⟩; clear p1 p2)
    | (go_region_held3 (fun _ => True) (trivial) ((go_at_call 59; refine (nums_wc (alloc_drew _ _) [3, 4] (cs_drew _ _ _ _ rfl) H1.out.1 (H1.out.2.cs HX.out HT.out.1 hxb) HT.out.1 HT.out.2 rfl L2.out.2 L2.out.1 (by first | decide | simp)).mono ?_; rintro e x2 ⟨rfl, p1, p2⟩; have H2 : Aside0 (Wr B wb bb (bs ++ encAt ((([]) ++ (at_ .t [0, 1, 2])) ++ (at_ .n [3, 4])) vs) x2 ∧ Wk B bb w x2) := ⟨by rw [encAt_append, ← List.append_assoc]; exact p1, H1.out.2.trans p2⟩; clear p1 p2)))
    | fail
  go_wp2
  go_end0
  have ef : sc_sent = (([]) ++ (at_ .t [0, 1, 2])) ++ (at_ .n [3, 4]) := by first | rfl | simp [sc_sent, List.append_assoc]
  exact ⟨rfl, by rw [ef]; exact H2.out.1, H2.out.2⟩
set_option maxHeartbeats 8000000 in
set_option maxRecDepth 100000 in
theorem sent_r {wb xb : Nat} {s : Rd} {T : TypeId} {vs : List Value} {w : World} (h : Rw wb s w) (hx : Cs xb T vs w) (hxw : xb ≠ wb) (hj : ∀ x ∈ sc_sent, x.2 < vs.length) (hl : s.D.length ≤ 1000000000000) :
    Calls Tryz.prog 82 #[.pointer (some ⟨wb, 0, none⟩), .pointer (some ⟨xb, 0, none⟩)] w (Redd wb xb T (rdAt sc_sent (s, vs)) w) := by
  have H0 : Aside0 (Rw wb (rdAt ([]) (s, vs)).1 w ∧ Cs xb T (rdAt ([]) (s, vs)).2 w ∧ Fr (fun i => i = wb ∨ i = xb) w w) := ⟨h, hx, Fr.refl _ _⟩
  have HXW := Aside0.mk hxw
  have HJ := Aside0.mk hj
  have HL := Aside0.mk hl
  clear h hx hxw hj hl
  have ES0 : Aside0 (sc_sent = ([] : Sc) ++ (sc_sent)) := ⟨rfl⟩
  go_enter Tryz.func82, Tryz.ntmps82
  have E1 : Aside0 (sc_sent = (([]) ++ (at_ .t [0, 1, 2])) ++ ((at_ .n [3, 4]))) := ⟨by rw [ES0.out]; first | rfl | simp [sc_sent, List.append_assoc]⟩
  have k1 : ∀ x ∈ (at_ .t [0, 1, 2] : Sc), x.2 < (rdAt ([]) (s, vs)).2.length := fun x hx => by
    rw [(rdAt_len _ _).2]
    refine HJ.out x ?_
    rw [E1.out]
    exact List.mem_append_left _ (List.mem_append_right _ hx)
  have j1 : ∀ j ∈ ([0, 1, 2] : List Nat), j < (rdAt ([]) (s, vs)).2.length := fun j hj => k1 (.t, j) (List.mem_map.2 ⟨j, hj, rfl⟩)
  have L1 := Aside0.mk (And.intro j1 (Nat.le_trans (rdAt_len ([]) (s, vs)).1 HL.out))
  clear k1 j1
  go_wp2_with (fail)
  first
    | (refine (texts_rc (alloc_below _ _) [0, 1, 2] (cs_alloc _ _ _ _ rfl) H0.out.1 H0.out.2.1 HXW.out rfl L1.out.1 L1.out.2 (by first | decide | simp)).mono ?_; rintro e x1 ⟨rfl, p1, p2, p3⟩; have H1 : Aside0 (Rw wb (rdAt (([]) ++ (at_ .t [0, 1, 2])) (s, vs)).1 x1 ∧ Cs xb T (rdAt (([]) ++ (at_ .t [0, 1, 2])) (s, vs)).2 x1 ∧ Fr (fun i => i = wb ∨ i = xb) w x1) := ⟨by rw [rdAt_append]; exact p1, by rw [rdAt_append]; exact p2, H0.out.2.2.trans p3 fun i hi => .inl hi⟩; clear p1 p2 p3)
    | (go_region_held3 (fun _ => True) (trivial) ((go_at_call 58; refine (texts_rc (alloc_drew _ _) [0, 1, 2] (cs_drew _ _ _ _ rfl) H0.out.1 H0.out.2.1 HXW.out rfl L1.out.1 L1.out.2 (by first | decide | simp)).mono ?_; rintro e x1 ⟨rfl, p1, p2, p3⟩; have H1 : Aside0 (Rw wb (rdAt (([]) ++ (at_ .t [0, 1, 2])) (s, vs)).1 x1 ∧ Cs xb T (rdAt (([]) ++ (at_ .t [0, 1, 2])) (s, vs)).2 x1 ∧ Fr (fun i => i = wb ∨ i = xb) w x1) := ⟨by rw [rdAt_append]; exact p1, by rw [rdAt_append]; exact p2, H0.out.2.2.trans p3 fun i hi => .inl hi⟩; clear p1 p2 p3)))
    | fail
  have E2 : Aside0 (sc_sent = ((([]) ++ (at_ .t [0, 1, 2])) ++ (at_ .n [3, 4])) ++ (([] : Sc))) := ⟨by rw [E1.out]; first | rfl | simp [sc_sent, List.append_assoc]⟩
  have k2 : ∀ x ∈ (at_ .n [3, 4] : Sc), x.2 < (rdAt (([]) ++ (at_ .t [0, 1, 2])) (s, vs)).2.length := fun x hx => by
    rw [(rdAt_len _ _).2]
    refine HJ.out x ?_
    rw [E2.out]
    exact List.mem_append_left _ (List.mem_append_right _ hx)
  have j2 : ∀ j ∈ ([3, 4] : List Nat), j < (rdAt (([]) ++ (at_ .t [0, 1, 2])) (s, vs)).2.length := fun j hj => k2 (.n, j) (List.mem_map.2 ⟨j, hj, rfl⟩)
  have L2 := Aside0.mk (And.intro j2 (Nat.le_trans (rdAt_len (([]) ++ (at_ .t [0, 1, 2])) (s, vs)).1 HL.out))
  clear k2 j2
  go_wp2_with (fail)
  first
    | (refine (nums_rc (alloc_below _ _) [3, 4] (cs_alloc _ _ _ _ rfl) H1.out.1 H1.out.2.1 HXW.out rfl L2.out.1 L2.out.2 (by first | decide | simp)).mono ?_; rintro e x2 ⟨rfl, p1, p2, p3⟩; have H2 : Aside0 (Rw wb (rdAt ((([]) ++ (at_ .t [0, 1, 2])) ++ (at_ .n [3, 4])) (s, vs)).1 x2 ∧ Cs xb T (rdAt ((([]) ++ (at_ .t [0, 1, 2])) ++ (at_ .n [3, 4])) (s, vs)).2 x2 ∧ Fr (fun i => i = wb ∨ i = xb) w x2) := ⟨by rw [rdAt_append]; exact p1, by rw [rdAt_append]; exact p2, H1.out.2.2.trans p3 fun i hi => .inl hi⟩; clear p1 p2 p3)
    | (go_region_held3 (fun _ => True) (trivial) ((go_at_call 59; refine (nums_rc (alloc_drew _ _) [3, 4] (cs_drew _ _ _ _ rfl) H1.out.1 H1.out.2.1 HXW.out rfl L2.out.1 L2.out.2 (by first | decide | simp)).mono ?_; rintro e x2 ⟨rfl, p1, p2, p3⟩; have H2 : Aside0 (Rw wb (rdAt ((([]) ++ (at_ .t [0, 1, 2])) ++ (at_ .n [3, 4])) (s, vs)).1 x2 ∧ Cs xb T (rdAt ((([]) ++ (at_ .t [0, 1, 2])) ++ (at_ .n [3, 4])) (s, vs)).2 x2 ∧ Fr (fun i => i = wb ∨ i = xb) w x2) := ⟨by rw [rdAt_append]; exact p1, by rw [rdAt_append]; exact p2, H1.out.2.2.trans p3 fun i hi => .inl hi⟩; clear p1 p2 p3)))
    | fail
  go_wp2
  go_end0
  have ef : sc_sent = (([]) ++ (at_ .t [0, 1, 2])) ++ (at_ .n [3, 4]) := by first | rfl | simp [sc_sent, List.append_assoc]
  rw [ef]
  exact ⟨rfl, H2.out⟩
def sc_counted : Sc := (sc_key (0)) ++ (at_ .n [4])
set_option maxHeartbeats 8000000 in
set_option maxRecDepth 100000 in
theorem counted_w {B wb bb xb : Nat} {bs : List UInt8} {T : TypeId} {vs : List Value} {w : World} (h : Wr B wb bb bs w) (hx : Cs xb T vs w) (hT : T ≠ 5) (hT2 : T ≠ 108) (hk : OkAt sc_counted vs) (hl : bs.length + (encAt sc_counted vs).length ≤ 140737488355328) :
    Calls Tryz.prog 84 #[.pointer (some ⟨wb, 0, none⟩), .pointer (some ⟨xb, 0, none⟩)] w (Writ B wb bb (bs ++ encAt sc_counted vs) w) := by
  have H0 : Aside0 (Wr B wb bb (bs ++ encAt ([]) vs) w ∧ Wk B bb w w) := ⟨by simpa [encAt] using h, Wk.refl _ _ _⟩
  have hxb : xb ≠ bb := h.bbT hx hT2
  have HX := Aside0.mk hx
  have HT := Aside0.mk (And.intro hT hT2)
  have HK := Aside0.mk hk
  have HL := Aside0.mk hl
  clear h hx hT hT2 hk hl
  have ES0 : Aside0 (sc_counted = ([] : Sc) ++ (sc_counted)) := ⟨rfl⟩
  go_enter Tryz.func84, Tryz.ntmps84
  have E1 : Aside0 (sc_counted = (([]) ++ (sc_key (0))) ++ ((at_ .n [4]))) := ⟨by rw [ES0.out]; first | rfl | simp [sc_counted, List.append_assoc]⟩
  have l1 : (bs ++ encAt ([]) vs).length + (encAt (sc_key (0)) vs).length ≤ 140737488355328 := by
    have z := HL.out
    rw [E1.out, encAt_append, encAt_append] at z
    simp only [List.length_append] at z ⊢
    omega
  have k1 : OkAt (sc_key (0)) vs := by
    have z := HK.out
    rw [E1.out] at z
    exact z.left.right
  have L1 := Aside0.mk (And.intro l1 k1)
  clear l1 k1
  go_wp2_with (fail)
  first
    | (refine (key_w _ _ _ _ (0) _ _ _ _ H0.out.1 (H0.out.2.cs HX.out HT.out.1 hxb) HT.out.1 HT.out.2 L1.out.2 L1.out.1).mono ?_; rintro e x1 ⟨rfl, p1, p2⟩; have H1 : Aside0 (Wr B wb bb (bs ++ encAt (([]) ++ (sc_key (0))) vs) x1 ∧ Wk B bb w x1) := ⟨by rw [encAt_append, ← List.append_assoc]; exact p1, H0.out.2.trans p2⟩; clear p1 p2)
    | (go_region_held3 (fun _ => True) (trivial) ((go_at_call 66; refine (key_w _ _ _ _ (0) _ _ _ _ H0.out.1 (H0.out.2.cs HX.out HT.out.1 hxb) HT.out.1 HT.out.2 L1.out.2 L1.out.1).mono ?_; rintro e x1 ⟨rfl, p1, p2⟩; have H1 : Aside0 (Wr B wb bb (bs ++ encAt (([]) ++ (sc_key (0))) vs) x1 ∧ Wk B bb w x1) := ⟨by rw [encAt_append, ← List.append_assoc]; exact p1, H0.out.2.trans p2⟩; clear p1 p2)))
    | fail
  have E2 : Aside0 (sc_counted = ((([]) ++ (sc_key (0))) ++ (at_ .n [4])) ++ (([] : Sc))) := ⟨by rw [E1.out]; first | rfl | simp [sc_counted, List.append_assoc]⟩
  have l2 : (bs ++ encAt (([]) ++ (sc_key (0))) vs).length + (encAt (at_ .n [4]) vs).length ≤ 140737488355328 := by
    have z := HL.out
    rw [E2.out, encAt_append, encAt_append] at z
    simp only [List.length_append] at z ⊢
    omega
  have k2 : OkAt (at_ .n [4]) vs := by
    have z := HK.out
    rw [E2.out] at z
    exact z.left.right
  have L2 := Aside0.mk (And.intro l2 k2)
  clear l2 k2
  go_wp2_with (fail)
  first
    | (refine (nums_wc (alloc_below _ _) [4] (cs_alloc _ _ _ _ rfl) H1.out.1 (H1.out.2.cs HX.out HT.out.1 hxb) HT.out.1 HT.out.2 rfl L2.out.2 L2.out.1 (by first | decide | simp)).mono ?_; rintro e x2 ⟨rfl, p1, p2⟩; have H2 : Aside0 (Wr B wb bb (bs ++ encAt ((([]) ++ (sc_key (0))) ++ (at_ .n [4])) vs) x2 ∧ Wk B bb w x2) := ⟨by rw [encAt_append, ← List.append_assoc]; exact p1, H1.out.2.trans p2⟩; clear p1 p2)
    | (go_region_held3 (fun _ => True) (trivial) ((go_at_call 59; refine (nums_wc (alloc_drew _ _) [4] (cs_drew _ _ _ _ rfl) H1.out.1 (H1.out.2.cs HX.out HT.out.1 hxb) HT.out.1 HT.out.2 rfl L2.out.2 L2.out.1 (by first | decide | simp)).mono ?_; rintro e x2 ⟨rfl, p1, p2⟩; have H2 : Aside0 (Wr B wb bb (bs ++ encAt ((([]) ++ (sc_key (0))) ++ (at_ .n [4])) vs) x2 ∧ Wk B bb w x2) := ⟨by rw [encAt_append, ← List.append_assoc]; exact p1, H1.out.2.trans p2⟩; clear p1 p2)))
    | fail
  go_wp2
  go_end0
  have ef : sc_counted = (([]) ++ (sc_key (0))) ++ (at_ .n [4]) := by first | rfl | simp [sc_counted, List.append_assoc]
  exact ⟨rfl, by rw [ef]; exact H2.out.1, H2.out.2⟩
set_option maxHeartbeats 8000000 in
set_option maxRecDepth 100000 in
theorem counted_r {wb xb : Nat} {s : Rd} {T : TypeId} {vs : List Value} {w : World} (h : Rw wb s w) (hx : Cs xb T vs w) (hxw : xb ≠ wb) (hj : ∀ x ∈ sc_counted, x.2 < vs.length) (hl : s.D.length ≤ 1000000000000) :
    Calls Tryz.prog 84 #[.pointer (some ⟨wb, 0, none⟩), .pointer (some ⟨xb, 0, none⟩)] w (Redd wb xb T (rdAt sc_counted (s, vs)) w) := by
  have H0 : Aside0 (Rw wb (rdAt ([]) (s, vs)).1 w ∧ Cs xb T (rdAt ([]) (s, vs)).2 w ∧ Fr (fun i => i = wb ∨ i = xb) w w) := ⟨h, hx, Fr.refl _ _⟩
  have HXW := Aside0.mk hxw
  have HJ := Aside0.mk hj
  have HL := Aside0.mk hl
  clear h hx hxw hj hl
  have ES0 : Aside0 (sc_counted = ([] : Sc) ++ (sc_counted)) := ⟨rfl⟩
  go_enter Tryz.func84, Tryz.ntmps84
  have E1 : Aside0 (sc_counted = (([]) ++ (sc_key (0))) ++ ((at_ .n [4]))) := ⟨by rw [ES0.out]; first | rfl | simp [sc_counted, List.append_assoc]⟩
  have k1 : ∀ x ∈ (sc_key (0) : Sc), x.2 < (rdAt ([]) (s, vs)).2.length := fun x hx => by
    rw [(rdAt_len _ _).2]
    refine HJ.out x ?_
    rw [E1.out]
    exact List.mem_append_left _ (List.mem_append_right _ hx)
  have j1 := k1
  have L1 := Aside0.mk (And.intro j1 (Nat.le_trans (rdAt_len ([]) (s, vs)).1 HL.out))
  clear k1 j1
  go_wp2_with (fail)
  first
    | (refine (key_r _ _ (0) _ _ _ _ H0.out.1 H0.out.2.1 HXW.out L1.out.1 L1.out.2).mono ?_; rintro e x1 ⟨rfl, p1, p2, p3⟩; have H1 : Aside0 (Rw wb (rdAt (([]) ++ (sc_key (0))) (s, vs)).1 x1 ∧ Cs xb T (rdAt (([]) ++ (sc_key (0))) (s, vs)).2 x1 ∧ Fr (fun i => i = wb ∨ i = xb) w x1) := ⟨by rw [rdAt_append]; exact p1, by rw [rdAt_append]; exact p2, H0.out.2.2.trans p3 fun i hi => .inl hi⟩; clear p1 p2 p3)
    | (go_region_held3 (fun _ => True) (trivial) ((go_at_call 66; refine (key_r _ _ (0) _ _ _ _ H0.out.1 H0.out.2.1 HXW.out L1.out.1 L1.out.2).mono ?_; rintro e x1 ⟨rfl, p1, p2, p3⟩; have H1 : Aside0 (Rw wb (rdAt (([]) ++ (sc_key (0))) (s, vs)).1 x1 ∧ Cs xb T (rdAt (([]) ++ (sc_key (0))) (s, vs)).2 x1 ∧ Fr (fun i => i = wb ∨ i = xb) w x1) := ⟨by rw [rdAt_append]; exact p1, by rw [rdAt_append]; exact p2, H0.out.2.2.trans p3 fun i hi => .inl hi⟩; clear p1 p2 p3)))
    | fail
  have E2 : Aside0 (sc_counted = ((([]) ++ (sc_key (0))) ++ (at_ .n [4])) ++ (([] : Sc))) := ⟨by rw [E1.out]; first | rfl | simp [sc_counted, List.append_assoc]⟩
  have k2 : ∀ x ∈ (at_ .n [4] : Sc), x.2 < (rdAt (([]) ++ (sc_key (0))) (s, vs)).2.length := fun x hx => by
    rw [(rdAt_len _ _).2]
    refine HJ.out x ?_
    rw [E2.out]
    exact List.mem_append_left _ (List.mem_append_right _ hx)
  have j2 : ∀ j ∈ ([4] : List Nat), j < (rdAt (([]) ++ (sc_key (0))) (s, vs)).2.length := fun j hj => k2 (.n, j) (List.mem_map.2 ⟨j, hj, rfl⟩)
  have L2 := Aside0.mk (And.intro j2 (Nat.le_trans (rdAt_len (([]) ++ (sc_key (0))) (s, vs)).1 HL.out))
  clear k2 j2
  go_wp2_with (fail)
  first
    | (refine (nums_rc (alloc_below _ _) [4] (cs_alloc _ _ _ _ rfl) H1.out.1 H1.out.2.1 HXW.out rfl L2.out.1 L2.out.2 (by first | decide | simp)).mono ?_; rintro e x2 ⟨rfl, p1, p2, p3⟩; have H2 : Aside0 (Rw wb (rdAt ((([]) ++ (sc_key (0))) ++ (at_ .n [4])) (s, vs)).1 x2 ∧ Cs xb T (rdAt ((([]) ++ (sc_key (0))) ++ (at_ .n [4])) (s, vs)).2 x2 ∧ Fr (fun i => i = wb ∨ i = xb) w x2) := ⟨by rw [rdAt_append]; exact p1, by rw [rdAt_append]; exact p2, H1.out.2.2.trans p3 fun i hi => .inl hi⟩; clear p1 p2 p3)
    | (go_region_held3 (fun _ => True) (trivial) ((go_at_call 59; refine (nums_rc (alloc_drew _ _) [4] (cs_drew _ _ _ _ rfl) H1.out.1 H1.out.2.1 HXW.out rfl L2.out.1 L2.out.2 (by first | decide | simp)).mono ?_; rintro e x2 ⟨rfl, p1, p2, p3⟩; have H2 : Aside0 (Rw wb (rdAt ((([]) ++ (sc_key (0))) ++ (at_ .n [4])) (s, vs)).1 x2 ∧ Cs xb T (rdAt ((([]) ++ (sc_key (0))) ++ (at_ .n [4])) (s, vs)).2 x2 ∧ Fr (fun i => i = wb ∨ i = xb) w x2) := ⟨by rw [rdAt_append]; exact p1, by rw [rdAt_append]; exact p2, H1.out.2.2.trans p3 fun i hi => .inl hi⟩; clear p1 p2 p3)))
    | fail
  go_wp2
  go_end0
  have ef : sc_counted = (([]) ++ (sc_key (0))) ++ (at_ .n [4]) := by first | rfl | simp [sc_counted, List.append_assoc]
  rw [ef]
  exact ⟨rfl, H2.out⟩
def sc_total : Sc := (at_ .t [0, 1]) ++ (at_ .n [2, 3, 4, 5])
set_option maxHeartbeats 8000000 in
set_option maxRecDepth 100000 in
theorem total_w {B wb bb xb : Nat} {bs : List UInt8} {T : TypeId} {vs : List Value} {w : World} (h : Wr B wb bb bs w) (hx : Cs xb T vs w) (hT : T ≠ 5) (hT2 : T ≠ 108) (hk : OkAt sc_total vs) (hl : bs.length + (encAt sc_total vs).length ≤ 140737488355328) :
    Calls Tryz.prog 86 #[.pointer (some ⟨wb, 0, none⟩), .pointer (some ⟨xb, 0, none⟩)] w (Writ B wb bb (bs ++ encAt sc_total vs) w) := by
  have H0 : Aside0 (Wr B wb bb (bs ++ encAt ([]) vs) w ∧ Wk B bb w w) := ⟨by simpa [encAt] using h, Wk.refl _ _ _⟩
  have hxb : xb ≠ bb := h.bbT hx hT2
  have HX := Aside0.mk hx
  have HT := Aside0.mk (And.intro hT hT2)
  have HK := Aside0.mk hk
  have HL := Aside0.mk hl
  clear h hx hT hT2 hk hl
  have ES0 : Aside0 (sc_total = ([] : Sc) ++ (sc_total)) := ⟨rfl⟩
  go_enter Tryz.func86, Tryz.ntmps86
  have E1 : Aside0 (sc_total = (([]) ++ (at_ .t [0, 1])) ++ ((at_ .n [2, 3, 4, 5]))) := ⟨by rw [ES0.out]; first | rfl | simp [sc_total, List.append_assoc]⟩
  have l1 : (bs ++ encAt ([]) vs).length + (encAt (at_ .t [0, 1]) vs).length ≤ 140737488355328 := by
    have z := HL.out
    rw [E1.out, encAt_append, encAt_append] at z
    simp only [List.length_append] at z ⊢
    omega
  have k1 : OkAt (at_ .t [0, 1]) vs := by
    have z := HK.out
    rw [E1.out] at z
    exact z.left.right
  have L1 := Aside0.mk (And.intro l1 k1)
  clear l1 k1
  go_wp2_with (fail)
  first
    | (refine (texts_wc (alloc_below _ _) [0, 1] (cs_alloc _ _ _ _ rfl) H0.out.1 (H0.out.2.cs HX.out HT.out.1 hxb) HT.out.1 HT.out.2 rfl L1.out.2 L1.out.1 (by first | decide | simp)).mono ?_; rintro e x1 ⟨rfl, p1, p2⟩; have H1 : Aside0 (Wr B wb bb (bs ++ encAt (([]) ++ (at_ .t [0, 1])) vs) x1 ∧ Wk B bb w x1) := ⟨by rw [encAt_append, ← List.append_assoc]; exact p1, H0.out.2.trans p2⟩; clear p1 p2)
    | (go_region_held3 (fun _ => True) (trivial) ((go_at_call 58; refine (texts_wc (alloc_drew _ _) [0, 1] (cs_drew _ _ _ _ rfl) H0.out.1 (H0.out.2.cs HX.out HT.out.1 hxb) HT.out.1 HT.out.2 rfl L1.out.2 L1.out.1 (by first | decide | simp)).mono ?_; rintro e x1 ⟨rfl, p1, p2⟩; have H1 : Aside0 (Wr B wb bb (bs ++ encAt (([]) ++ (at_ .t [0, 1])) vs) x1 ∧ Wk B bb w x1) := ⟨by rw [encAt_append, ← List.append_assoc]; exact p1, H0.out.2.trans p2⟩; clear p1 p2)))
    | fail
  have E2 : Aside0 (sc_total = ((([]) ++ (at_ .t [0, 1])) ++ (at_ .n [2, 3, 4, 5])) ++ (([] : Sc))) := ⟨by rw [E1.out]; first | rfl | simp [sc_total, List.append_assoc]⟩
  have l2 : (bs ++ encAt (([]) ++ (at_ .t [0, 1])) vs).length + (encAt (at_ .n [2, 3, 4, 5]) vs).length ≤ 140737488355328 := by
    have z := HL.out
    rw [E2.out, encAt_append, encAt_append] at z
    simp only [List.length_append] at z ⊢
    omega
  have k2 : OkAt (at_ .n [2, 3, 4, 5]) vs := by
    have z := HK.out
    rw [E2.out] at z
    exact z.left.right
  have L2 := Aside0.mk (And.intro l2 k2)
  clear l2 k2
  go_wp2_with (fail)
  first
    | (refine (nums_wc (alloc_below _ _) [2, 3, 4, 5] (cs_alloc _ _ _ _ rfl) H1.out.1 (H1.out.2.cs HX.out HT.out.1 hxb) HT.out.1 HT.out.2 rfl L2.out.2 L2.out.1 (by first | decide | simp)).mono ?_; rintro e x2 ⟨rfl, p1, p2⟩; have H2 : Aside0 (Wr B wb bb (bs ++ encAt ((([]) ++ (at_ .t [0, 1])) ++ (at_ .n [2, 3, 4, 5])) vs) x2 ∧ Wk B bb w x2) := ⟨by rw [encAt_append, ← List.append_assoc]; exact p1, H1.out.2.trans p2⟩; clear p1 p2)
    | (go_region_held3 (fun _ => True) (trivial) ((go_at_call 59; refine (nums_wc (alloc_drew _ _) [2, 3, 4, 5] (cs_drew _ _ _ _ rfl) H1.out.1 (H1.out.2.cs HX.out HT.out.1 hxb) HT.out.1 HT.out.2 rfl L2.out.2 L2.out.1 (by first | decide | simp)).mono ?_; rintro e x2 ⟨rfl, p1, p2⟩; have H2 : Aside0 (Wr B wb bb (bs ++ encAt ((([]) ++ (at_ .t [0, 1])) ++ (at_ .n [2, 3, 4, 5])) vs) x2 ∧ Wk B bb w x2) := ⟨by rw [encAt_append, ← List.append_assoc]; exact p1, H1.out.2.trans p2⟩; clear p1 p2)))
    | fail
  go_wp2
  go_end0
  have ef : sc_total = (([]) ++ (at_ .t [0, 1])) ++ (at_ .n [2, 3, 4, 5]) := by first | rfl | simp [sc_total, List.append_assoc]
  exact ⟨rfl, by rw [ef]; exact H2.out.1, H2.out.2⟩
set_option maxHeartbeats 8000000 in
set_option maxRecDepth 100000 in
theorem total_r {wb xb : Nat} {s : Rd} {T : TypeId} {vs : List Value} {w : World} (h : Rw wb s w) (hx : Cs xb T vs w) (hxw : xb ≠ wb) (hj : ∀ x ∈ sc_total, x.2 < vs.length) (hl : s.D.length ≤ 1000000000000) :
    Calls Tryz.prog 86 #[.pointer (some ⟨wb, 0, none⟩), .pointer (some ⟨xb, 0, none⟩)] w (Redd wb xb T (rdAt sc_total (s, vs)) w) := by
  have H0 : Aside0 (Rw wb (rdAt ([]) (s, vs)).1 w ∧ Cs xb T (rdAt ([]) (s, vs)).2 w ∧ Fr (fun i => i = wb ∨ i = xb) w w) := ⟨h, hx, Fr.refl _ _⟩
  have HXW := Aside0.mk hxw
  have HJ := Aside0.mk hj
  have HL := Aside0.mk hl
  clear h hx hxw hj hl
  have ES0 : Aside0 (sc_total = ([] : Sc) ++ (sc_total)) := ⟨rfl⟩
  go_enter Tryz.func86, Tryz.ntmps86
  have E1 : Aside0 (sc_total = (([]) ++ (at_ .t [0, 1])) ++ ((at_ .n [2, 3, 4, 5]))) := ⟨by rw [ES0.out]; first | rfl | simp [sc_total, List.append_assoc]⟩
  have k1 : ∀ x ∈ (at_ .t [0, 1] : Sc), x.2 < (rdAt ([]) (s, vs)).2.length := fun x hx => by
    rw [(rdAt_len _ _).2]
    refine HJ.out x ?_
    rw [E1.out]
    exact List.mem_append_left _ (List.mem_append_right _ hx)
  have j1 : ∀ j ∈ ([0, 1] : List Nat), j < (rdAt ([]) (s, vs)).2.length := fun j hj => k1 (.t, j) (List.mem_map.2 ⟨j, hj, rfl⟩)
  have L1 := Aside0.mk (And.intro j1 (Nat.le_trans (rdAt_len ([]) (s, vs)).1 HL.out))
  clear k1 j1
  go_wp2_with (fail)
  first
    | (refine (texts_rc (alloc_below _ _) [0, 1] (cs_alloc _ _ _ _ rfl) H0.out.1 H0.out.2.1 HXW.out rfl L1.out.1 L1.out.2 (by first | decide | simp)).mono ?_; rintro e x1 ⟨rfl, p1, p2, p3⟩; have H1 : Aside0 (Rw wb (rdAt (([]) ++ (at_ .t [0, 1])) (s, vs)).1 x1 ∧ Cs xb T (rdAt (([]) ++ (at_ .t [0, 1])) (s, vs)).2 x1 ∧ Fr (fun i => i = wb ∨ i = xb) w x1) := ⟨by rw [rdAt_append]; exact p1, by rw [rdAt_append]; exact p2, H0.out.2.2.trans p3 fun i hi => .inl hi⟩; clear p1 p2 p3)
    | (go_region_held3 (fun _ => True) (trivial) ((go_at_call 58; refine (texts_rc (alloc_drew _ _) [0, 1] (cs_drew _ _ _ _ rfl) H0.out.1 H0.out.2.1 HXW.out rfl L1.out.1 L1.out.2 (by first | decide | simp)).mono ?_; rintro e x1 ⟨rfl, p1, p2, p3⟩; have H1 : Aside0 (Rw wb (rdAt (([]) ++ (at_ .t [0, 1])) (s, vs)).1 x1 ∧ Cs xb T (rdAt (([]) ++ (at_ .t [0, 1])) (s, vs)).2 x1 ∧ Fr (fun i => i = wb ∨ i = xb) w x1) := ⟨by rw [rdAt_append]; exact p1, by rw [rdAt_append]; exact p2, H0.out.2.2.trans p3 fun i hi => .inl hi⟩; clear p1 p2 p3)))
    | fail
  have E2 : Aside0 (sc_total = ((([]) ++ (at_ .t [0, 1])) ++ (at_ .n [2, 3, 4, 5])) ++ (([] : Sc))) := ⟨by rw [E1.out]; first | rfl | simp [sc_total, List.append_assoc]⟩
  have k2 : ∀ x ∈ (at_ .n [2, 3, 4, 5] : Sc), x.2 < (rdAt (([]) ++ (at_ .t [0, 1])) (s, vs)).2.length := fun x hx => by
    rw [(rdAt_len _ _).2]
    refine HJ.out x ?_
    rw [E2.out]
    exact List.mem_append_left _ (List.mem_append_right _ hx)
  have j2 : ∀ j ∈ ([2, 3, 4, 5] : List Nat), j < (rdAt (([]) ++ (at_ .t [0, 1])) (s, vs)).2.length := fun j hj => k2 (.n, j) (List.mem_map.2 ⟨j, hj, rfl⟩)
  have L2 := Aside0.mk (And.intro j2 (Nat.le_trans (rdAt_len (([]) ++ (at_ .t [0, 1])) (s, vs)).1 HL.out))
  clear k2 j2
  go_wp2_with (fail)
  first
    | (refine (nums_rc (alloc_below _ _) [2, 3, 4, 5] (cs_alloc _ _ _ _ rfl) H1.out.1 H1.out.2.1 HXW.out rfl L2.out.1 L2.out.2 (by first | decide | simp)).mono ?_; rintro e x2 ⟨rfl, p1, p2, p3⟩; have H2 : Aside0 (Rw wb (rdAt ((([]) ++ (at_ .t [0, 1])) ++ (at_ .n [2, 3, 4, 5])) (s, vs)).1 x2 ∧ Cs xb T (rdAt ((([]) ++ (at_ .t [0, 1])) ++ (at_ .n [2, 3, 4, 5])) (s, vs)).2 x2 ∧ Fr (fun i => i = wb ∨ i = xb) w x2) := ⟨by rw [rdAt_append]; exact p1, by rw [rdAt_append]; exact p2, H1.out.2.2.trans p3 fun i hi => .inl hi⟩; clear p1 p2 p3)
    | (go_region_held3 (fun _ => True) (trivial) ((go_at_call 59; refine (nums_rc (alloc_drew _ _) [2, 3, 4, 5] (cs_drew _ _ _ _ rfl) H1.out.1 H1.out.2.1 HXW.out rfl L2.out.1 L2.out.2 (by first | decide | simp)).mono ?_; rintro e x2 ⟨rfl, p1, p2, p3⟩; have H2 : Aside0 (Rw wb (rdAt ((([]) ++ (at_ .t [0, 1])) ++ (at_ .n [2, 3, 4, 5])) (s, vs)).1 x2 ∧ Cs xb T (rdAt ((([]) ++ (at_ .t [0, 1])) ++ (at_ .n [2, 3, 4, 5])) (s, vs)).2 x2 ∧ Fr (fun i => i = wb ∨ i = xb) w x2) := ⟨by rw [rdAt_append]; exact p1, by rw [rdAt_append]; exact p2, H1.out.2.2.trans p3 fun i hi => .inl hi⟩; clear p1 p2 p3)))
    | fail
  go_wp2
  go_end0
  have ef : sc_total = (([]) ++ (at_ .t [0, 1])) ++ (at_ .n [2, 3, 4, 5]) := by first | rfl | simp [sc_total, List.append_assoc]
  rw [ef]
  exact ⟨rfl, H2.out⟩
def sc_str : Sc := (at_ .t [0])
set_option maxHeartbeats 8000000 in
set_option maxRecDepth 100000 in
theorem str_w {B wb bb xb : Nat} {bs : List UInt8} {T : TypeId} {vs : List Value} {w : World} (h : Wr B wb bb bs w) (hx : Cs xb T vs w) (hT : T ≠ 5) (hT2 : T ≠ 108) (hk : OkAt sc_str vs) (hl : bs.length + (encAt sc_str vs).length ≤ 140737488355328) :
    Calls Tryz.prog 90 #[.pointer (some ⟨wb, 0, none⟩), .pointer (some ⟨xb, 0, none⟩)] w (Writ B wb bb (bs ++ encAt sc_str vs) w) := by
  have H0 : Aside0 (Wr B wb bb (bs ++ encAt ([]) vs) w ∧ Wk B bb w w) := ⟨by simpa [encAt] using h, Wk.refl _ _ _⟩
  have hxb : xb ≠ bb := h.bbT hx hT2
  have HX := Aside0.mk hx
  have HT := Aside0.mk (And.intro hT hT2)
  have HK := Aside0.mk hk
  have HL := Aside0.mk hl
  clear h hx hT hT2 hk hl
  have ES0 : Aside0 (sc_str = ([] : Sc) ++ (sc_str)) := ⟨rfl⟩
  go_enter Tryz.func90, Tryz.ntmps90
  have E1 : Aside0 (sc_str = (([]) ++ (at_ .t [0])) ++ (([] : Sc))) := ⟨by rw [ES0.out]; first | rfl | simp [sc_str, List.append_assoc]⟩
  have l1 : (bs ++ encAt ([]) vs).length + (encAt (at_ .t [0]) vs).length ≤ 140737488355328 := by
    have z := HL.out
    rw [E1.out, encAt_append, encAt_append] at z
    simp only [List.length_append] at z ⊢
    omega
  have k1 : OkAt (at_ .t [0]) vs := by
    have z := HK.out
    rw [E1.out] at z
    exact z.left.right
  have L1 := Aside0.mk (And.intro l1 k1)
  clear l1 k1
  go_wp2_with (fail)
  first
    | (refine (texts_wc (alloc_below _ _) [0] (cs_alloc _ _ _ _ rfl) H0.out.1 (H0.out.2.cs HX.out HT.out.1 hxb) HT.out.1 HT.out.2 rfl L1.out.2 L1.out.1 (by first | decide | simp)).mono ?_; rintro e x1 ⟨rfl, p1, p2⟩; have H1 : Aside0 (Wr B wb bb (bs ++ encAt (([]) ++ (at_ .t [0])) vs) x1 ∧ Wk B bb w x1) := ⟨by rw [encAt_append, ← List.append_assoc]; exact p1, H0.out.2.trans p2⟩; clear p1 p2)
    | (go_region_held3 (fun _ => True) (trivial) ((go_at_call 58; refine (texts_wc (alloc_drew _ _) [0] (cs_drew _ _ _ _ rfl) H0.out.1 (H0.out.2.cs HX.out HT.out.1 hxb) HT.out.1 HT.out.2 rfl L1.out.2 L1.out.1 (by first | decide | simp)).mono ?_; rintro e x1 ⟨rfl, p1, p2⟩; have H1 : Aside0 (Wr B wb bb (bs ++ encAt (([]) ++ (at_ .t [0])) vs) x1 ∧ Wk B bb w x1) := ⟨by rw [encAt_append, ← List.append_assoc]; exact p1, H0.out.2.trans p2⟩; clear p1 p2)))
    | fail
  go_wp2
  go_end0
  have ef : sc_str = ([]) ++ (at_ .t [0]) := by first | rfl | simp [sc_str, List.append_assoc]
  exact ⟨rfl, by rw [ef]; exact H1.out.1, H1.out.2⟩
set_option maxHeartbeats 8000000 in
set_option maxRecDepth 100000 in
theorem str_r {wb xb : Nat} {s : Rd} {T : TypeId} {vs : List Value} {w : World} (h : Rw wb s w) (hx : Cs xb T vs w) (hxw : xb ≠ wb) (hj : ∀ x ∈ sc_str, x.2 < vs.length) (hl : s.D.length ≤ 1000000000000) :
    Calls Tryz.prog 90 #[.pointer (some ⟨wb, 0, none⟩), .pointer (some ⟨xb, 0, none⟩)] w (Redd wb xb T (rdAt sc_str (s, vs)) w) := by
  have H0 : Aside0 (Rw wb (rdAt ([]) (s, vs)).1 w ∧ Cs xb T (rdAt ([]) (s, vs)).2 w ∧ Fr (fun i => i = wb ∨ i = xb) w w) := ⟨h, hx, Fr.refl _ _⟩
  have HXW := Aside0.mk hxw
  have HJ := Aside0.mk hj
  have HL := Aside0.mk hl
  clear h hx hxw hj hl
  have ES0 : Aside0 (sc_str = ([] : Sc) ++ (sc_str)) := ⟨rfl⟩
  go_enter Tryz.func90, Tryz.ntmps90
  have E1 : Aside0 (sc_str = (([]) ++ (at_ .t [0])) ++ (([] : Sc))) := ⟨by rw [ES0.out]; first | rfl | simp [sc_str, List.append_assoc]⟩
  have k1 : ∀ x ∈ (at_ .t [0] : Sc), x.2 < (rdAt ([]) (s, vs)).2.length := fun x hx => by
    rw [(rdAt_len _ _).2]
    refine HJ.out x ?_
    rw [E1.out]
    exact List.mem_append_left _ (List.mem_append_right _ hx)
  have j1 : ∀ j ∈ ([0] : List Nat), j < (rdAt ([]) (s, vs)).2.length := fun j hj => k1 (.t, j) (List.mem_map.2 ⟨j, hj, rfl⟩)
  have L1 := Aside0.mk (And.intro j1 (Nat.le_trans (rdAt_len ([]) (s, vs)).1 HL.out))
  clear k1 j1
  go_wp2_with (fail)
  first
    | (refine (texts_rc (alloc_below _ _) [0] (cs_alloc _ _ _ _ rfl) H0.out.1 H0.out.2.1 HXW.out rfl L1.out.1 L1.out.2 (by first | decide | simp)).mono ?_; rintro e x1 ⟨rfl, p1, p2, p3⟩; have H1 : Aside0 (Rw wb (rdAt (([]) ++ (at_ .t [0])) (s, vs)).1 x1 ∧ Cs xb T (rdAt (([]) ++ (at_ .t [0])) (s, vs)).2 x1 ∧ Fr (fun i => i = wb ∨ i = xb) w x1) := ⟨by rw [rdAt_append]; exact p1, by rw [rdAt_append]; exact p2, H0.out.2.2.trans p3 fun i hi => .inl hi⟩; clear p1 p2 p3)
    | (go_region_held3 (fun _ => True) (trivial) ((go_at_call 58; refine (texts_rc (alloc_drew _ _) [0] (cs_drew _ _ _ _ rfl) H0.out.1 H0.out.2.1 HXW.out rfl L1.out.1 L1.out.2 (by first | decide | simp)).mono ?_; rintro e x1 ⟨rfl, p1, p2, p3⟩; have H1 : Aside0 (Rw wb (rdAt (([]) ++ (at_ .t [0])) (s, vs)).1 x1 ∧ Cs xb T (rdAt (([]) ++ (at_ .t [0])) (s, vs)).2 x1 ∧ Fr (fun i => i = wb ∨ i = xb) w x1) := ⟨by rw [rdAt_append]; exact p1, by rw [rdAt_append]; exact p2, H0.out.2.2.trans p3 fun i hi => .inl hi⟩; clear p1 p2 p3)))
    | fail
  go_wp2
  go_end0
  have ef : sc_str = ([]) ++ (at_ .t [0]) := by first | rfl | simp [sc_str, List.append_assoc]
  rw [ef]
  exact ⟨rfl, H1.out⟩
def sc_int : Sc := (at_ .n [0])
set_option maxHeartbeats 8000000 in
set_option maxRecDepth 100000 in
theorem int_w {B wb bb xb : Nat} {bs : List UInt8} {T : TypeId} {vs : List Value} {w : World} (h : Wr B wb bb bs w) (hx : Cs xb T vs w) (hT : T ≠ 5) (hT2 : T ≠ 108) (hk : OkAt sc_int vs) (hl : bs.length + (encAt sc_int vs).length ≤ 140737488355328) :
    Calls Tryz.prog 92 #[.pointer (some ⟨wb, 0, none⟩), .pointer (some ⟨xb, 0, none⟩)] w (Writ B wb bb (bs ++ encAt sc_int vs) w) := by
  have H0 : Aside0 (Wr B wb bb (bs ++ encAt ([]) vs) w ∧ Wk B bb w w) := ⟨by simpa [encAt] using h, Wk.refl _ _ _⟩
  have hxb : xb ≠ bb := h.bbT hx hT2
  have HX := Aside0.mk hx
  have HT := Aside0.mk (And.intro hT hT2)
  have HK := Aside0.mk hk
  have HL := Aside0.mk hl
  clear h hx hT hT2 hk hl
  have ES0 : Aside0 (sc_int = ([] : Sc) ++ (sc_int)) := ⟨rfl⟩
  go_enter Tryz.func92, Tryz.ntmps92
  have E1 : Aside0 (sc_int = (([]) ++ (at_ .n [0])) ++ (([] : Sc))) := ⟨by rw [ES0.out]; first | rfl | simp [sc_int, List.append_assoc]⟩
  have l1 : (bs ++ encAt ([]) vs).length + (encAt (at_ .n [0]) vs).length ≤ 140737488355328 := by
    have z := HL.out
    rw [E1.out, encAt_append, encAt_append] at z
    simp only [List.length_append] at z ⊢
    omega
  have k1 : OkAt (at_ .n [0]) vs := by
    have z := HK.out
    rw [E1.out] at z
    exact z.left.right
  have L1 := Aside0.mk (And.intro l1 k1)
  clear l1 k1
  go_wp2_with (fail)
  first
    | (refine (nums_wc (alloc_below _ _) [0] (cs_alloc _ _ _ _ rfl) H0.out.1 (H0.out.2.cs HX.out HT.out.1 hxb) HT.out.1 HT.out.2 rfl L1.out.2 L1.out.1 (by first | decide | simp)).mono ?_; rintro e x1 ⟨rfl, p1, p2⟩; have H1 : Aside0 (Wr B wb bb (bs ++ encAt (([]) ++ (at_ .n [0])) vs) x1 ∧ Wk B bb w x1) := ⟨by rw [encAt_append, ← List.append_assoc]; exact p1, H0.out.2.trans p2⟩; clear p1 p2)
    | (go_region_held3 (fun _ => True) (trivial) ((go_at_call 59; refine (nums_wc (alloc_drew _ _) [0] (cs_drew _ _ _ _ rfl) H0.out.1 (H0.out.2.cs HX.out HT.out.1 hxb) HT.out.1 HT.out.2 rfl L1.out.2 L1.out.1 (by first | decide | simp)).mono ?_; rintro e x1 ⟨rfl, p1, p2⟩; have H1 : Aside0 (Wr B wb bb (bs ++ encAt (([]) ++ (at_ .n [0])) vs) x1 ∧ Wk B bb w x1) := ⟨by rw [encAt_append, ← List.append_assoc]; exact p1, H0.out.2.trans p2⟩; clear p1 p2)))
    | fail
  go_wp2
  go_end0
  have ef : sc_int = ([]) ++ (at_ .n [0]) := by first | rfl | simp [sc_int, List.append_assoc]
  exact ⟨rfl, by rw [ef]; exact H1.out.1, H1.out.2⟩
set_option maxHeartbeats 8000000 in
set_option maxRecDepth 100000 in
theorem int_r {wb xb : Nat} {s : Rd} {T : TypeId} {vs : List Value} {w : World} (h : Rw wb s w) (hx : Cs xb T vs w) (hxw : xb ≠ wb) (hj : ∀ x ∈ sc_int, x.2 < vs.length) (hl : s.D.length ≤ 1000000000000) :
    Calls Tryz.prog 92 #[.pointer (some ⟨wb, 0, none⟩), .pointer (some ⟨xb, 0, none⟩)] w (Redd wb xb T (rdAt sc_int (s, vs)) w) := by
  have H0 : Aside0 (Rw wb (rdAt ([]) (s, vs)).1 w ∧ Cs xb T (rdAt ([]) (s, vs)).2 w ∧ Fr (fun i => i = wb ∨ i = xb) w w) := ⟨h, hx, Fr.refl _ _⟩
  have HXW := Aside0.mk hxw
  have HJ := Aside0.mk hj
  have HL := Aside0.mk hl
  clear h hx hxw hj hl
  have ES0 : Aside0 (sc_int = ([] : Sc) ++ (sc_int)) := ⟨rfl⟩
  go_enter Tryz.func92, Tryz.ntmps92
  have E1 : Aside0 (sc_int = (([]) ++ (at_ .n [0])) ++ (([] : Sc))) := ⟨by rw [ES0.out]; first | rfl | simp [sc_int, List.append_assoc]⟩
  have k1 : ∀ x ∈ (at_ .n [0] : Sc), x.2 < (rdAt ([]) (s, vs)).2.length := fun x hx => by
    rw [(rdAt_len _ _).2]
    refine HJ.out x ?_
    rw [E1.out]
    exact List.mem_append_left _ (List.mem_append_right _ hx)
  have j1 : ∀ j ∈ ([0] : List Nat), j < (rdAt ([]) (s, vs)).2.length := fun j hj => k1 (.n, j) (List.mem_map.2 ⟨j, hj, rfl⟩)
  have L1 := Aside0.mk (And.intro j1 (Nat.le_trans (rdAt_len ([]) (s, vs)).1 HL.out))
  clear k1 j1
  go_wp2_with (fail)
  first
    | (refine (nums_rc (alloc_below _ _) [0] (cs_alloc _ _ _ _ rfl) H0.out.1 H0.out.2.1 HXW.out rfl L1.out.1 L1.out.2 (by first | decide | simp)).mono ?_; rintro e x1 ⟨rfl, p1, p2, p3⟩; have H1 : Aside0 (Rw wb (rdAt (([]) ++ (at_ .n [0])) (s, vs)).1 x1 ∧ Cs xb T (rdAt (([]) ++ (at_ .n [0])) (s, vs)).2 x1 ∧ Fr (fun i => i = wb ∨ i = xb) w x1) := ⟨by rw [rdAt_append]; exact p1, by rw [rdAt_append]; exact p2, H0.out.2.2.trans p3 fun i hi => .inl hi⟩; clear p1 p2 p3)
    | (go_region_held3 (fun _ => True) (trivial) ((go_at_call 59; refine (nums_rc (alloc_drew _ _) [0] (cs_drew _ _ _ _ rfl) H0.out.1 H0.out.2.1 HXW.out rfl L1.out.1 L1.out.2 (by first | decide | simp)).mono ?_; rintro e x1 ⟨rfl, p1, p2, p3⟩; have H1 : Aside0 (Rw wb (rdAt (([]) ++ (at_ .n [0])) (s, vs)).1 x1 ∧ Cs xb T (rdAt (([]) ++ (at_ .n [0])) (s, vs)).2 x1 ∧ Fr (fun i => i = wb ∨ i = xb) w x1) := ⟨by rw [rdAt_append]; exact p1, by rw [rdAt_append]; exact p2, H0.out.2.2.trans p3 fun i hi => .inl hi⟩; clear p1 p2 p3)))
    | fail
  go_wp2
  go_end0
  have ef : sc_int = ([]) ++ (at_ .n [0]) := by first | rfl | simp [sc_int, List.append_assoc]
  rw [ef]
  exact ⟨rfl, H1.out⟩
end Go.Proofs.YtgdoodeibcfcjaaGreat.Wire
