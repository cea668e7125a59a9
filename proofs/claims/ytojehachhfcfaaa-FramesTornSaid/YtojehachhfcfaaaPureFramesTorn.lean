/- The statement FramesTorn of the program's layer 4, over the functions that the printed texts tell. -/
import Derived.Test.YtojehachhfcfaaaFramesK
import Derived.Test.YtojehachhfcfaaaPrint8
set_option linter.unusedVariables false
namespace Go.Proofs.Ytojehachhfcfaaa.Pure
open Go.RowKit Go.Proofs.Ytojehachhfcfaaa.SumPure Go.Proofs.Ytojehachhfcfaaa.Sect Go.Proofs.Ytojehachhfcfaaa.FramesPure Go.Proofs.Ytojehachhfcfaaa.Print Go.Proofs.YtojehachhfcfaaaW.PrintWords Go.Proofs.YtojehachhfcfaaaW.PrintLast Go.Proofs.YtojehachhfcfaaaW.PrintMore
theorem torn_j0_true (k : Nat) (hk : 100 ≤ k) (x : Int) (a b : List ByteArray) : stevedorelaw04_FramesTorn.j0 k x a b true = some true := by
  obtain ⟨k, rfl⟩ : ∃ m, k = m + 1 := ⟨k - 1, by omega⟩
  simp only [stevedorelaw04_FramesTorn.j0]
  rw [if_pos trivial, awake_at (by omega)]; rfl
theorem torn_j1_true (k : Nat) (hk : 100 ≤ k) (x : Int) (a b : List ByteArray) : stevedorelaw04_FramesTorn.j1 k a b x true = some true := by
  obtain ⟨k, rfl⟩ : ∃ m, k = m + 1 := ⟨k - 1, by omega⟩
  simp only [stevedorelaw04_FramesTorn.j1]
  rw [if_pos trivial, awake_at (by omega)]; rfl
theorem torn_j0_false (k : Nat) (hk : 110 ≤ k) (x : Int) {n n' : Int} {D D' : List UInt8} (h : okLay n D) (h' : okLay n' D') (hne : ¬(n = n' ∧ cnt D.length = cnt D'.length)) : stevedorelaw04_FramesTorn.j0 k x (secs n D) (secs n' D') false = some true := by
  obtain ⟨k, rfl⟩ : ∃ m, k = m + 2 := ⟨k - 2, by omega⟩
  have h8 := (cnt_le D.length).2 h.2.2
  have h8' := (cnt_le D'.length).2 h'.2.2
  have hp := cnt_pos D.length
  simp only [stevedorelaw04_FramesTorn.j0]
  rw [if_neg (by simp), secs_len, secs_len, wrap_id (x := (cnt D.length : Int) - 1) (by omega) (by omega)]
  by_cases c1 : mn (mx x 1) ((cnt D.length : Int) - 1) < 1
  · rw [if_pos c1]; exact torn_j1_true _ (by omega) _ _ _
  rw [if_neg c1]
  by_cases c2 : mn (mx x 1) ((cnt D.length : Int) - 1) ≥ (cnt D'.length : Int)
  · rw [decide_eq_true c2]; exact torn_j1_true _ (by omega) _ _ _
  rw [decide_eq_false c2]
  obtain ⟨m, hm⟩ : ∃ m : Nat, mn (mx x 1) ((cnt D.length : Int) - 1) = m := ⟨(mn (mx x 1) ((cnt D.length : Int) - 1)).toNat, by omega⟩
  have hm2 : (m : Int) ≤ (cnt D.length : Int) - 1 := by
    rw [← hm]; unfold mn; split <;> omega
  rw [hm] at c1 c2 ⊢
  simp only [stevedorelaw04_FramesTorn.j1]
  rw [if_neg (by simp), Option.bind_some, if_pos (by omega), if_pos (by rw [secs_len]; omega), Option.bind_some, if_pos (by rw [List.length_take, secs_len, Int.toNat_natCast]; simp; omega), Option.bind_some, if_pos (by rw [secs_len]; omega), Option.bind_some, if_pos (by simp [secs_len]; omega), List.nil_append, Int.toNat_natCast, Join_at _ (by simp [secs_len]; omega) (by omega), join_torn h h' (by omega) (by omega) (by omega) hne, Option.bind_some, if_pos (by rfl), awake_at (by omega)]
  rfl
theorem FramesTorn (a0 : Int) (a1 : ByteArray) (b0 : Int) (b1 : ByteArray) (x : Int) (h1 : a1.size ≤ 140737488351232) (h2 : b1.size ≤ 140737488351232) (w : (Lit.int .i64 x).wf = true) : ∃ k, stevedorelaw04_FramesTorn.f k a0 a1 b0 b1 x = some true := by
  refine ⟨300, ?_⟩
  unfold stevedorelaw04_FramesTorn.f
  rw [Lay_at a0 a1 (by omega) (by omega), Option.bind_some, Lay_at b0 b1 (by omega) (by omega), Option.bind_some]
  by_cases h : okLay a0 a1.data.toList
  · have e : layP a0 a1.data.toList = (secs a0 a1.data.toList, 0) := by unfold layP; rw [if_pos h]
    rw [e]
    by_cases h' : okLay b0 b1.data.toList
    · have e' : layP b0 b1.data.toList = (secs b0 b1.data.toList, 0) := by unfold layP; rw [if_pos h']
      rw [e']
      dsimp only
      rw [if_pos rfl, if_pos rfl]
      by_cases c : a0 = b0
      · rw [if_pos c, secs_len, secs_len]
        by_cases c2 : cnt a1.data.toList.length = cnt b1.data.toList.length
        · rw [show ((cnt a1.data.toList.length : Int) == (cnt b1.data.toList.length : Int)) = true from by rw [beq_iff_eq]; omega]
          exact torn_j0_true _ (by omega) _ _ _
        · rw [show ((cnt a1.data.toList.length : Int) == (cnt b1.data.toList.length : Int)) = false from by rw [beq_eq_false_iff_ne]; omega]
          exact torn_j0_false _ (by omega) _ h h' (fun hh => c2 hh.2)
      · rw [if_neg c]
        exact torn_j0_false _ (by omega) _ h h' (fun hh => c hh.1)
    · have e' : layP b0 b1.data.toList = ([], 43) := by unfold layP; rw [if_neg h']
      rw [e']
      dsimp only
      rw [if_pos rfl, if_neg (by decide)]
      exact torn_j0_true _ (by omega) _ _ _
  · have e : layP a0 a1.data.toList = ([], 43) := by unfold layP; rw [if_neg h]
    rw [e]
    dsimp only
    rw [if_neg (by decide)]
    exact torn_j0_true _ (by omega) _ _ _
end Go.Proofs.Ytojehachhfcfaaa.Pure
