/- The statement NumsTakes of the program's layer 1, over the functions that the printed texts tell. -/
import Derived.Test.YtcdndnebmonlfaaNumsAwake
set_option linter.unusedVariables false
namespace Go.Proofs.Ytcdndnebmonlfaa.Pure
open Go.RowKit Go.Proofs.Ytcdndnebmonlfaa.Print Go.Proofs.Ytcdndnebmonlfaa.NumsPure Go.Proofs.YtcdndnebmonlfaaW.PrintWords Go.Proofs.YtcdndnebmonlfaaW.PrintLast Go.Proofs.YtcdndnebmonlfaaW.PrintMore
open Go.Proofs.Ytcdndnebmonlfaa.Put (digits digits_lt digits_ge)
theorem NumsTakes : stevedorelaw01_NumsTakes.Pure := by
  intro s hs
  refine ⟨60, ?_⟩
  unfold stevedorelaw01_NumsTakes.f
  rw [nums_Take_at s (by omega) (by omega), ref_Take_at s (by omega) (by omega), nums_TakeText_at s (by omega) (by omega), ref_TakeText_at s (by omega) (by omega)]
  simp only [Option.bind_some, if_true]
  rw [awake_at (by omega)]
  rfl
end Go.Proofs.Ytcdndnebmonlfaa.Pure
