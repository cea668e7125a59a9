/- The statement FramesJoins of the program's layer 4, over the functions that the printed texts tell. -/
import Derived.Test.YtojehachhfcfaaaFramesR
import Derived.Test.YtojehachhfcfaaaFramesK
set_option linter.unusedVariables false
namespace Go.Proofs.Ytojehachhfcfaaa.Pure
open Go.RowKit Go.Proofs.Ytojehachhfcfaaa.SumPure Go.Proofs.Ytojehachhfcfaaa.FramesPure Go.Proofs.Ytojehachhfcfaaa.Print Go.Proofs.YtojehachhfcfaaaW.PrintWords Go.Proofs.YtojehachhfcfaaaW.PrintLast Go.Proofs.YtojehachhfcfaaaW.PrintMore
theorem FramesJoins (l : List ByteArray) (hl : l.length * 16 ≤ 140737488351232) : ∃ k, stevedorelaw04_FramesJoins.f k l = some true := by
  refine ⟨l.length + 300, ?_⟩
  unfold stevedorelaw04_FramesJoins.f
  simp only [Option.bind_some, List.nil_append]
  rw [if_pos (by simp; omega), Join_at l (by omega) (by omega), RJoin_at l (by omega) (by omega), texts_at l l (by omega) (by omega), awake_at (by omega)]
  simp
end Go.Proofs.Ytojehachhfcfaaa.Pure
