/- The law MediaNil, walked. -/
import Derived.Test.YtdjcaogffppdhaaMedAw
set_option linter.unusedVariables false
set_option linter.unusedSimpArgs false
namespace Go.Proofs.Ytdjcaogffppdhaa.LawMNil
open Go.RowKit Go.Proofs.Ytdjcaogffppdhaa.Med
open Go.Proofs.YtdjcaogffppdhaaW.PrintWords Go.Proofs.YtdjcaogffppdhaaW.PrintLast Go.Proofs.YtdjcaogffppdhaaW.PrintMore
set_option maxHeartbeats 16000000 in
set_option maxRecDepth 100000 in
theorem walk (n : Int) (w : World) : Calls Try.prog 6 #[.int .i64 n] w fun e w' => e = .returned (.bool true) ∧ Below w.heap.size w w' := by
  go_enter Try.func6, Try.ntmps6
  go_wp2_with (first
    | (go_at_call 11; refine (arm_nil n _).mono ?_; rintro e w' ⟨rfl, rfl⟩)
    | (go_at_call 24; refine (on_nil _).mono ?_; rintro e w' ⟨rfl, rfl⟩)
    | (go_at_call 21; refine (read_nil n n _).mono ?_; rintro e w' ⟨rfl, rfl⟩)
    | (go_at_call 12; refine (write_nil n n _ (by decide) _).mono ?_; rintro e w' ⟨rfl, rfl⟩)
    | (go_at_call 19; refine (remove_nil n _).mono ?_; rintro e w' ⟨rfl, rfl⟩)
    | (go_at_call 27; refine (files_nil _).mono ?_; rintro e w' ⟨rfl, rfl⟩)
    | (go_at_call 15; refine (size_nil n _).mono ?_; rintro e w' ⟨rfl, rfl⟩)
    | (go_at_call 14; refine (writes_nil _).mono ?_; rintro e w' ⟨rfl, rfl⟩)
    | (go_at_call 16; refine (MedAw.awake_calls _).mono ?_; rintro e w' ⟨rfl, hb⟩; have HB := Aside0.mk hb; clear hb))
  go_ret
  exact ⟨rfl, HB.out⟩
end Go.Proofs.Ytdjcaogffppdhaa.LawMNil
