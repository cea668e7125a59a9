/- The statement NumsLays of the program's layer 1, over the functions that the printed texts tell. -/
import Derived.Test.YtcdndnebmonlfaaNumsAwake
set_option linter.unusedVariables false
namespace Go.Proofs.Ytcdndnebmonlfaa.Pure
open Go.RowKit Go.Proofs.Ytcdndnebmonlfaa.Print Go.Proofs.Ytcdndnebmonlfaa.NumsPure Go.Proofs.YtcdndnebmonlfaaW.PrintWords Go.Proofs.YtcdndnebmonlfaaW.PrintLast Go.Proofs.YtcdndnebmonlfaaW.PrintMore
theorem NumsLays : stevedorelaw01_NumsLays.Pure := by
  intro l s hm hl hw hs
  refine ⟨s.size + 60, ?_⟩
  unfold stevedorelaw01_NumsLays.f
  rw [nums_Put_at l hw (by omega), ref_Put_at l hw (by omega), nums_Text_at s (by omega), ref_Text_at s (by omega), nums_Name_at s (by omega), ref_Name_at s (by omega), nums_Sum_at s (by omega) (by omega), ref_Sum_at s (by omega) (by omega)]
  simp only [Option.bind_some, if_true]
  rw [awake_at (by omega)]
  rfl
end Go.Proofs.Ytcdndnebmonlfaa.Pure
