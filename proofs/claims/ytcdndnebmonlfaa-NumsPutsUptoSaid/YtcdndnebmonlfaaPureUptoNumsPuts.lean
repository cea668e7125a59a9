/- The statement NumsPuts of the program's layer 1 at inputs of at most 1048576 values and letters, over the functions that the printed texts tell. -/
import Derived.Test.YtcdndnebmonlfaaNumsAwake
set_option linter.unusedVariables false
namespace Go.Proofs.Ytcdndnebmonlfaa.Pure
open Go.RowKit Go.Proofs.Ytcdndnebmonlfaa.Print Go.Proofs.Ytcdndnebmonlfaa.NumsPure Go.Proofs.YtcdndnebmonlfaaW.PrintWords Go.Proofs.YtcdndnebmonlfaaW.PrintLast Go.Proofs.YtcdndnebmonlfaaW.PrintMore
open Go.Proofs.Ytcdndnebmonlfaa.Put (digits digits_lt digits_ge)
theorem NumsPutsUpto : ∀ (l0 : List Int), l0.length ≤ 1048576 → (∀ x ∈ l0, (Lit.int .i64 x).wf = true) → ∃ k, stevedorelaw01_NumsPuts.f k l0 = some true := by
  intro l hl hw
  obtain ⟨K, hK⟩ := ref_Put_ev l hw (by omega)
  refine ⟨K + 60, ?_⟩
  unfold stevedorelaw01_NumsPuts.f
  have h1 : stevedoreref01_Put.f (K + 60) l = _ := hK _ (by omega)
  rw [nums_Put_at l hw (by omega), h1]
  simp only [Option.bind_some, if_true]
  rw [awake_at (by omega)]
  rfl
end Go.Proofs.Ytcdndnebmonlfaa.Pure
