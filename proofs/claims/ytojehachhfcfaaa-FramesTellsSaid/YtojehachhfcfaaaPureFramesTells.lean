/- The statement FramesTells of the program's layer 4, over the functions that the printed texts tell. -/
import Derived.Test.YtojehachhfcfaaaFramesK
import Derived.Test.YtojehachhfcfaaaFramesT
import Derived.Test.YtojehachhfcfaaaPrint9
set_option linter.unusedVariables false
namespace Go.Proofs.Ytojehachhfcfaaa.Pure
open Go.RowKit Go.Proofs.Ytojehachhfcfaaa.SumPure Go.Proofs.Ytojehachhfcfaaa.FramesPure Go.Proofs.Ytojehachhfcfaaa.Print Go.Proofs.YtojehachhfcfaaaW.PrintWords Go.Proofs.YtojehachhfcfaaaW.PrintLast Go.Proofs.YtojehachhfcfaaaW.PrintMore
theorem FramesTells : stevedorelaw04_FramesTells.Pure := by
  intro a0 h0
  refine ⟨200, ?_⟩
  unfold stevedorelaw04_FramesTells.f
  rw [Tell_at a0 (by omega), RTell_at a0 (by omega), awake_at (by omega)]
  simp only [Option.bind_some, if_true]
end Go.Proofs.Ytojehachhfcfaaa.Pure
