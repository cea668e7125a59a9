/- Small and wide: walked. Printed by csmall.py. -/
import Derived.Test.YtgdoodeibcfcjaaGreatCFew
set_option linter.unusedVariables false
set_option linter.unusedSimpArgs false
namespace Go.Proofs.YtgdoodeibcfcjaaGreat.Wire
open Go.RowKit Go.Proofs.YtgdoodeibcfcjaaGreat.NumsPure Go.Proofs.YtgdoodeibcfcjaaGreat.CPure Go.Proofs.YtgdoodeibcfcjaaGreat.Own
set_option maxHeartbeats 16000000 in
set_option maxRecDepth 100000 in
theorem small_cells {A0 A1 A2 A3 A4 A5 A6 A7 A8 A9 A10 A11 A12 A13 : Option Addr} {n0 n1 n2 n3 n4 n5 n6 n7 n8 n9 n10 n11 n12 n13 c0 c1 c2 c3 c4 c5 c6 c7 c8 c9 c10 c11 c12 c13 : Nat} {z : Int} (w : World) : Calls Tryz.prog 4 #[.agg #[.slice A0 n0 c0, .slice A1 n1 c1, .slice A2 n2 c2, .slice A3 n3 c3, .slice A4 n4 c4, .slice A5 n5 c5, .slice A6 n6 c6, .slice A7 n7 c7, .slice A8 n8 c8, .slice A9 n9 c9, .slice A10 n10 c10, .slice A11 n11 c11, .slice A12 n12 c12, .slice A13 n13 c13, .int .i64 z]] w (SaysB w) := by
  by_cases k0 : (n0 : Int) ≤ 80
  rotate_left
  · have d0 : decide ((n0 : Int) ≤ 80) = false := by simpa using k0
    go_enter Tryz.func4, Tryz.ntmps4
    go_wp2
    go_ret
    exact ⟨.inr rfl, (Below.refl _ w).alloc (Nat.le_refl _) _⟩
  by_cases k1 : (n1 : Int) ≤ 160
  rotate_left
  · have d1 : decide ((n1 : Int) ≤ 160) = false := by simpa using k1
    go_enter Tryz.func4, Tryz.ntmps4
    go_wp2
    go_ret
    exact ⟨.inr rfl, (Below.refl _ w).alloc (Nat.le_refl _) _⟩
  by_cases k2 : (n2 : Int) ≤ 40
  rotate_left
  · have d2 : decide ((n2 : Int) ≤ 40) = false := by simpa using k2
    go_enter Tryz.func4, Tryz.ntmps4
    go_wp2
    go_ret
    exact ⟨.inr rfl, (Below.refl _ w).alloc (Nat.le_refl _) _⟩
  by_cases k3 : (n3 : Int) ≤ 80
  rotate_left
  · have d3 : decide ((n3 : Int) ≤ 80) = false := by simpa using k3
    go_enter Tryz.func4, Tryz.ntmps4
    go_wp2
    go_ret
    exact ⟨.inr rfl, (Below.refl _ w).alloc (Nat.le_refl _) _⟩
  by_cases k4 : (n4 : Int) ≤ 300
  rotate_left
  · have d4 : decide ((n4 : Int) ≤ 300) = false := by simpa using k4
    go_enter Tryz.func4, Tryz.ntmps4
    go_wp2
    go_ret
    exact ⟨.inr rfl, (Below.refl _ w).alloc (Nat.le_refl _) _⟩
  by_cases k5 : (n5 : Int) ≤ 60
  rotate_left
  · have d5 : decide ((n5 : Int) ≤ 60) = false := by simpa using k5
    go_enter Tryz.func4, Tryz.ntmps4
    go_wp2
    go_ret
    exact ⟨.inr rfl, (Below.refl _ w).alloc (Nat.le_refl _) _⟩
  by_cases k6 : (n6 : Int) ≤ 60
  rotate_left
  · have d6 : decide ((n6 : Int) ≤ 60) = false := by simpa using k6
    go_enter Tryz.func4, Tryz.ntmps4
    go_wp2
    go_ret
    exact ⟨.inr rfl, (Below.refl _ w).alloc (Nat.le_refl _) _⟩
  by_cases k7 : (n7 : Int) ≤ 60
  rotate_left
  · have d7 : decide ((n7 : Int) ≤ 60) = false := by simpa using k7
    go_enter Tryz.func4, Tryz.ntmps4
    go_wp2
    go_ret
    exact ⟨.inr rfl, (Below.refl _ w).alloc (Nat.le_refl _) _⟩
  by_cases k8 : (n8 : Int) ≤ 160
  rotate_left
  · have d8 : decide ((n8 : Int) ≤ 160) = false := by simpa using k8
    go_enter Tryz.func4, Tryz.ntmps4
    go_wp2
    go_ret
    exact ⟨.inr rfl, (Below.refl _ w).alloc (Nat.le_refl _) _⟩
  by_cases k9 : (n9 : Int) ≤ 160
  rotate_left
  · have d9 : decide ((n9 : Int) ≤ 160) = false := by simpa using k9
    go_enter Tryz.func4, Tryz.ntmps4
    go_wp2
    go_ret
    exact ⟨.inr rfl, (Below.refl _ w).alloc (Nat.le_refl _) _⟩
  by_cases k10 : (n10 : Int) ≤ 80
  rotate_left
  · have d10 : decide ((n10 : Int) ≤ 80) = false := by simpa using k10
    go_enter Tryz.func4, Tryz.ntmps4
    go_wp2
    go_ret
    exact ⟨.inr rfl, (Below.refl _ w).alloc (Nat.le_refl _) _⟩
  by_cases k11 : (n11 : Int) ≤ 160
  rotate_left
  · have d11 : decide ((n11 : Int) ≤ 160) = false := by simpa using k11
    go_enter Tryz.func4, Tryz.ntmps4
    go_wp2
    go_ret
    exact ⟨.inr rfl, (Below.refl _ w).alloc (Nat.le_refl _) _⟩
  by_cases k12 : (n12 : Int) ≤ 120
  rotate_left
  · have d12 : decide ((n12 : Int) ≤ 120) = false := by simpa using k12
    go_enter Tryz.func4, Tryz.ntmps4
    go_wp2
    go_ret
    exact ⟨.inr rfl, (Below.refl _ w).alloc (Nat.le_refl _) _⟩
  by_cases k13 : (n13 : Int) ≤ 300
  rotate_left
  · have d13 : decide ((n13 : Int) ≤ 300) = false := by simpa using k13
    go_enter Tryz.func4, Tryz.ntmps4
    go_wp2
    go_ret
    exact ⟨.inr rfl, (Below.refl _ w).alloc (Nat.le_refl _) _⟩
  go_enter Tryz.func4, Tryz.ntmps4
  go_wp2
  go_ret
  exact ⟨.inl rfl, (Below.refl _ w).alloc (Nat.le_refl _) _⟩
theorem small_any {vs : List Value} {R : Nat → List (List Value)} {z : Int} {w w0 : World} (h : HouseA w0 vs R z) : Calls Tryz.prog 4 #[.agg vs.toArray] w (SaysB w) := by
  obtain ⟨A0, c0, A1, c1, A2, c2, A3, c3, A4, c4, A5, c5, A6, c6, A7, c7, A8, c8, A9, c9, A10, c10, A11, c11, A12, c12, A13, c13, rfl, -⟩ := h.shape
  exact small_cells w
end Go.Proofs.YtgdoodeibcfcjaaGreat.Wire
