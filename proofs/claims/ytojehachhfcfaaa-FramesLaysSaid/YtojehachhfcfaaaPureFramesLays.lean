/- The statement FramesLays of the program's layer 4, over the functions that the printed texts tell. -/
import Derived.Test.YtojehachhfcfaaaFramesK
import Derived.Test.YtojehachhfcfaaaFramesT
set_option linter.unusedVariables false
namespace Go.Proofs.Ytojehachhfcfaaa.Pure
open Go.RowKit Go.Proofs.Ytojehachhfcfaaa.SumPure Go.Proofs.Ytojehachhfcfaaa.FramesPure Go.Proofs.Ytojehachhfcfaaa.Print Go.Proofs.YtojehachhfcfaaaW.PrintWords Go.Proofs.YtojehachhfcfaaaW.PrintLast Go.Proofs.YtojehachhfcfaaaW.PrintMore
theorem FramesLays : stevedorelaw04_FramesLays.Pure := by
  intro a0 a1 a2 h0 h1 h2
  refine ⟨200, ?_⟩
  have hl : (layP a0 a1.data.toList).1.length ≤ 8 := by
    unfold layP
    by_cases h : okLay a0 a1.data.toList
    · rw [if_pos h]; show (secs _ _).length ≤ 8; rw [secs_len]; exact (cnt_le _).2 h.2.2
    · rw [if_neg h]; simp
  unfold stevedorelaw04_FramesLays.f
  rw [Lay_at a0 a1 (by omega) (by omega), RLay_at a0 a1 (by omega) (by omega), Tell_at a2 (by omega), RTell_at a2 (by omega), awake_at (by omega)]
  simp only [Option.bind_some, if_true]
  rw [texts_at _ _ (by omega) (by omega)]
  simp
end Go.Proofs.Ytojehachhfcfaaa.Pure
