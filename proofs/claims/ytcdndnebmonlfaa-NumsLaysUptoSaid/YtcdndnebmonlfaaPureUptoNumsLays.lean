/- The statement NumsLays of the program's layer 1 at inputs of at most 1048576 values and letters, over the functions that the printed texts tell. -/
import Derived.Test.YtcdndnebmonlfaaNumsAwake
set_option linter.unusedVariables false
namespace Go.Proofs.Ytcdndnebmonlfaa.Pure
open Go.RowKit Go.Proofs.Ytcdndnebmonlfaa.Print Go.Proofs.Ytcdndnebmonlfaa.NumsPure Go.Proofs.YtcdndnebmonlfaaW.PrintWords Go.Proofs.YtcdndnebmonlfaaW.PrintLast Go.Proofs.YtcdndnebmonlfaaW.PrintMore
open Go.Proofs.Ytcdndnebmonlfaa.Put (digits digits_lt digits_ge)
theorem NumsLaysUpto : ∀ (l0 : List Int) (a1 : ByteArray), l0.length ≤ 1048576 → (∀ x ∈ l0, (Lit.int .i64 x).wf = true) → a1.size ≤ 1048576 → ∃ k, stevedorelaw01_NumsLays.f k l0 a1 = some true := by
  intro l s hl hw hs
  obtain ⟨K, hK⟩ := ref_Put_ev l hw (by omega)
  obtain ⟨M, hM⟩ := ref_Text_ev s (by omega)
  refine ⟨K + M + s.size + 60, ?_⟩
  unfold stevedorelaw01_NumsLays.f
  have h1 : stevedoreref01_Put.f (K + M + s.size + 60) l = _ := hK _ (by omega)
  have h2 : stevedoreref01_Text.f (K + M + s.size + 60) s = _ := hM _ (by omega)
  rw [nums_Put_at l hw (by omega), h1, nums_Text_at s (by omega), h2, nums_Name_at s (by omega), ref_Name_at s (by omega), nums_Sum_at s (by omega) (by omega), ref_Sum_at s (by omega) (by omega)]
  simp only [Option.bind_some, if_true]
  rw [awake_at (by omega)]
  rfl
end Go.Proofs.Ytcdndnebmonlfaa.Pure
