/- Same of equal houses. Printed by cawake.py. -/
import Derived.Test.YtgdoodeibcfcjaaGreatCSameB
import Derived.Test.YtgdoodeibcfcjaaGreatCSameC
set_option linter.unusedVariables false
set_option linter.unusedSimpArgs false
namespace Go.Proofs.YtgdoodeibcfcjaaGreat.Wire
open Go.RowKit Go.Proofs.YtgdoodeibcfcjaaGreat.NumsPure Go.Proofs.YtgdoodeibcfcjaaGreat.CPure Go.Proofs.YtgdoodeibcfcjaaGreat.Own
/-- A house's fifteen cells, spelled out. -/
theorem HouseA.shape {w : World} {vs : List Value} {R : Nat → List (List Value)} {z : Int} (h : HouseA w vs R z) : ∃ (A0 : Option Addr) (c0 : Nat) (A1 : Option Addr) (c1 : Nat) (A2 : Option Addr) (c2 : Nat) (A3 : Option Addr) (c3 : Nat) (A4 : Option Addr) (c4 : Nat) (A5 : Option Addr) (c5 : Nat) (A6 : Option Addr) (c6 : Nat) (A7 : Option Addr) (c7 : Nat) (A8 : Option Addr) (c8 : Nat) (A9 : Option Addr) (c9 : Nat) (A10 : Option Addr) (c10 : Nat) (A11 : Option Addr) (c11 : Nat) (A12 : Option Addr) (c12 : Nat) (A13 : Option Addr) (c13 : Nat), vs = [.slice A0 (R 0).length c0, .slice A1 (R 1).length c1, .slice A2 (R 2).length c2, .slice A3 (R 3).length c3, .slice A4 (R 4).length c4, .slice A5 (R 5).length c5, .slice A6 (R 6).length c6, .slice A7 (R 7).length c7, .slice A8 (R 8).length c8, .slice A9 (R 9).length c9, .slice A10 (R 10).length c10, .slice A11 (R 11).length c11, .slice A12 (R 12).length c12, .slice A13 (R 13).length c13, .int .i64 z] ∧ RowA w A0 (szJ 0) (ksJ 0) c0 (R 0) ∧ RowA w A1 (szJ 1) (ksJ 1) c1 (R 1) ∧ RowA w A2 (szJ 2) (ksJ 2) c2 (R 2) ∧ RowA w A3 (szJ 3) (ksJ 3) c3 (R 3) ∧ RowA w A4 (szJ 4) (ksJ 4) c4 (R 4) ∧ RowA w A5 (szJ 5) (ksJ 5) c5 (R 5) ∧ RowA w A6 (szJ 6) (ksJ 6) c6 (R 6) ∧ RowA w A7 (szJ 7) (ksJ 7) c7 (R 7) ∧ RowA w A8 (szJ 8) (ksJ 8) c8 (R 8) ∧ RowA w A9 (szJ 9) (ksJ 9) c9 (R 9) ∧ RowA w A10 (szJ 10) (ksJ 10) c10 (R 10) ∧ RowA w A11 (szJ 11) (ksJ 11) c11 (R 11) ∧ RowA w A12 (szJ 12) (ksJ 12) c12 (R 12) ∧ RowA w A13 (szJ 13) (ksJ 13) c13 (R 13) := by
  obtain ⟨A0, c0, e0, r0⟩ := h.row 0 (by decide)
  obtain ⟨A1, c1, e1, r1⟩ := h.row 1 (by decide)
  obtain ⟨A2, c2, e2, r2⟩ := h.row 2 (by decide)
  obtain ⟨A3, c3, e3, r3⟩ := h.row 3 (by decide)
  obtain ⟨A4, c4, e4, r4⟩ := h.row 4 (by decide)
  obtain ⟨A5, c5, e5, r5⟩ := h.row 5 (by decide)
  obtain ⟨A6, c6, e6, r6⟩ := h.row 6 (by decide)
  obtain ⟨A7, c7, e7, r7⟩ := h.row 7 (by decide)
  obtain ⟨A8, c8, e8, r8⟩ := h.row 8 (by decide)
  obtain ⟨A9, c9, e9, r9⟩ := h.row 9 (by decide)
  obtain ⟨A10, c10, e10, r10⟩ := h.row 10 (by decide)
  obtain ⟨A11, c11, e11, r11⟩ := h.row 11 (by decide)
  obtain ⟨A12, c12, e12, r12⟩ := h.row 12 (by decide)
  obtain ⟨A13, c13, e13, r13⟩ := h.row 13 (by decide)
  have hl := h.len
  have hn := h.num
  match vs, hl with
  | [x0, x1, x2, x3, x4, x5, x6, x7, x8, x9, x10, x11, x12, x13, x14], _ =>
    simp only [List.getElem?_cons_zero, List.getElem?_cons_succ, Option.some.injEq] at e0 e1 e2 e3 e4 e5 e6 e7 e8 e9 e10 e11 e12 e13 hn
    exact ⟨A0, c0, A1, c1, A2, c2, A3, c3, A4, c4, A5, c5, A6, c6, A7, c7, A8, c8, A9, c9, A10, c10, A11, c11, A12, c12, A13, c13, by rw [e0, e1, e2, e3, e4, e5, e6, e7, e8, e9, e10, e11, e12, e13, hn], r0, r1, r2, r3, r4, r5, r6, r7, r8, r9, r10, r11, r12, r13⟩
theorem RowA.dr {w : World} {A : Option Addr} {k c n : Nat} {ks : List K} {rows : List (List Value)} (h : RowA w A k ks c rows) : RowA (w.drewN n) A k ks c rows := ⟨h.at_, h.cap, h.fits, h.few⟩
theorem alloc2 (w : World) (o1 o2 : Obj) : Below w.heap.size w ((w.alloc o1).alloc o2) := ((Below.refl _ w).alloc (Nat.le_refl _) _).alloc (by simp) _
theorem below_drewN (B : Nat) (w : World) (m : Nat) : Below B w (w.drewN m) := ⟨rfl, rfl, rfl, Nat.le_refl _, fun _ _ => rfl⟩
/-- Same says yes to equal houses. -/
def YesB (w : World) (e : Ending) (w' : World) : Prop := e = .returned (.bool true) ∧ Below w.heap.size w w'
set_option maxHeartbeats 16000000 in
set_option maxRecDepth 100000 in
theorem Same_any {w : World} {vs vs' : List Value} {R : Nat → List (List Value)} {z : Int} (h1 : HouseA w vs R z) (h2 : HouseA w vs' R z) :
    Calls Tryz.prog 15 #[.agg vs.toArray, .agg vs'.toArray] w (YesB w) := by
  obtain ⟨A0, c0, A1, c1, A2, c2, A3, c3, A4, c4, A5, c5, A6, c6, A7, c7, A8, c8, A9, c9, A10, c10, A11, c11, A12, c12, A13, c13, rfl, p0, p1, p2, p3, p4, p5, p6, p7, p8, p9, p10, p11, p12, p13⟩ := h1.shape
  obtain ⟨B0, d0, B1, d1, B2, d2, B3, d3, B4, d4, B5, d5, B6, d6, B7, d7, B8, d8, B9, d9, B10, d10, B11, d11, B12, d12, B13, d13, rfl, q0, q1, q2, q3, q4, q5, q6, q7, q8, q9, q10, q11, q12, q13⟩ := h2.shape
  have HP1 := Aside0.mk (And.intro p0 (And.intro p1 (And.intro p2 (And.intro p3 (And.intro p4 (And.intro p5 (And.intro p6 (And.intro p7 (And.intro p8 (And.intro p9 (And.intro p10 (And.intro p11 (And.intro p12 (p13))))))))))))))
  have HP2 := Aside0.mk (And.intro q0 (And.intro q1 (And.intro q2 (And.intro q3 (And.intro q4 (And.intro q5 (And.intro q6 (And.intro q7 (And.intro q8 (And.intro q9 (And.intro q10 (And.intro q11 (And.intro q12 (q13))))))))))))))
  clear h1 h2 p0 p1 p2 p3 p4 p5 p6 p7 p8 p9 p10 p11 p12 p13 q0 q1 q2 q3 q4 q5 q6 q7 q8 q9 q10 q11 q12 q13
  go_enter Tryz.func15, Tryz.ntmps15
  go_wp2_with (fail)
  refine (same_item ((HP1.out.1).below (alloc2 _ _ _)) ((HP2.out.1).below (alloc2 _ _ _))).mono ?_
  rintro e x0 ⟨rfl, m0, rfl⟩
  go_wp2_with (fail)
  refine (same_lot ((HP1.out.2.1).below (alloc2 _ _ _)).dr ((HP2.out.2.1).below (alloc2 _ _ _)).dr).mono ?_
  rintro e x1 ⟨rfl, m1, rfl⟩
  go_wp2_with (fail)
  refine (same_zone ((HP1.out.2.2.1).below (alloc2 _ _ _)).dr ((HP2.out.2.2.1).below (alloc2 _ _ _)).dr).mono ?_
  rintro e x2 ⟨rfl, m2, rfl⟩
  go_wp2_with (fail)
  refine (same_bin ((HP1.out.2.2.2.1).below (alloc2 _ _ _)).dr ((HP2.out.2.2.2.1).below (alloc2 _ _ _)).dr).mono ?_
  rintro e x3 ⟨rfl, m3, rfl⟩
  go_wp2_with (fail)
  refine (same_quant ((HP1.out.2.2.2.2.1).below (alloc2 _ _ _)).dr ((HP2.out.2.2.2.2.1).below (alloc2 _ _ _)).dr).mono ?_
  rintro e x4 ⟨rfl, m4, rfl⟩
  go_wp2_with (fail)
  refine (same_rule ((HP1.out.2.2.2.2.2.1).below (alloc2 _ _ _)).dr ((HP2.out.2.2.2.2.2.1).below (alloc2 _ _ _)).dr).mono ?_
  rintro e x5 ⟨rfl, m5, rfl⟩
  go_wp2_with (fail)
  refine (same_notice ((HP1.out.2.2.2.2.2.2.1).below (alloc2 _ _ _)).dr ((HP2.out.2.2.2.2.2.2.1).below (alloc2 _ _ _)).dr).mono ?_
  rintro e x6 ⟨rfl, m6, rfl⟩
  go_wp2_with (fail)
  refine (same_order ((HP1.out.2.2.2.2.2.2.2.1).below (alloc2 _ _ _)).dr ((HP2.out.2.2.2.2.2.2.2.1).below (alloc2 _ _ _)).dr).mono ?_
  rintro e x7 ⟨rfl, m7, rfl⟩
  go_wp2_with (fail)
  refine (same_claim ((HP1.out.2.2.2.2.2.2.2.2.1).below (alloc2 _ _ _)).dr ((HP2.out.2.2.2.2.2.2.2.2.1).below (alloc2 _ _ _)).dr).mono ?_
  rintro e x8 ⟨rfl, m8, rfl⟩
  go_wp2_with (fail)
  refine (same_task ((HP1.out.2.2.2.2.2.2.2.2.2.1).below (alloc2 _ _ _)).dr ((HP2.out.2.2.2.2.2.2.2.2.2.1).below (alloc2 _ _ _)).dr).mono ?_
  rintro e x9 ⟨rfl, m9, rfl⟩
  go_wp2_with (fail)
  refine (same_parcel ((HP1.out.2.2.2.2.2.2.2.2.2.2.1).below (alloc2 _ _ _)).dr ((HP2.out.2.2.2.2.2.2.2.2.2.2.1).below (alloc2 _ _ _)).dr).mono ?_
  rintro e x10 ⟨rfl, m10, rfl⟩
  go_wp2_with (fail)
  refine (same_sent ((HP1.out.2.2.2.2.2.2.2.2.2.2.2.1).below (alloc2 _ _ _)).dr ((HP2.out.2.2.2.2.2.2.2.2.2.2.2.1).below (alloc2 _ _ _)).dr).mono ?_
  rintro e x11 ⟨rfl, m11, rfl⟩
  go_wp2_with (fail)
  refine (same_counted ((HP1.out.2.2.2.2.2.2.2.2.2.2.2.2.1).below (alloc2 _ _ _)).dr ((HP2.out.2.2.2.2.2.2.2.2.2.2.2.2.1).below (alloc2 _ _ _)).dr).mono ?_
  rintro e x12 ⟨rfl, m12, rfl⟩
  go_wp2_with (fail)
  refine (same_total ((HP1.out.2.2.2.2.2.2.2.2.2.2.2.2.2).below (alloc2 _ _ _)).dr ((HP2.out.2.2.2.2.2.2.2.2.2.2.2.2.2).below (alloc2 _ _ _)).dr).mono ?_
  rintro e x13 ⟨rfl, m13, rfl⟩
  go_wp2
  go_ret
  exact ⟨rfl, (alloc2 _ _ _).trans (below_drewN _ _ _)⟩
end Go.Proofs.YtgdoodeibcfcjaaGreat.Wire
