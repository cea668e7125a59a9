/- The statement NumsNaming of the program's layer 1, over the functions that the printed texts tell. -/
import Derived.Test.YtcdndnebmonlfaaNumsAwake
set_option linter.unusedVariables false
namespace Go.Proofs.Ytcdndnebmonlfaa.Pure
open Go.RowKit Go.Proofs.Ytcdndnebmonlfaa.Print Go.Proofs.Ytcdndnebmonlfaa.NumsPure Go.Proofs.YtcdndnebmonlfaaW.PrintWords Go.Proofs.YtcdndnebmonlfaaW.PrintLast Go.Proofs.YtcdndnebmonlfaaW.PrintMore
open Go.Proofs.Ytcdndnebmonlfaa.Put (digits digits_lt digits_ge)
theorem NumsNaming : stevedorelaw01_NumsNaming.Pure := by
  intro s hs
  refine ⟨60, ?_⟩
  unfold stevedorelaw01_NumsNaming.f
  rw [nums_Name_at s (by omega), ref_Name_at s (by omega)]
  simp only [Option.bind_some, if_true]
  rw [awake_at (by omega)]
  rfl
end Go.Proofs.Ytcdndnebmonlfaa.Pure
