/- The law LogsNil, walked. -/
import Derived.Test.YtdjcaogffppdhaaLogLaw
set_option linter.unusedVariables false
set_option linter.unusedSimpArgs false
namespace Go.Proofs.Ytdjcaogffppdhaa.LawLNil
open Go.RowKit Go.Proofs.Ytdjcaogffppdhaa.Med Go.Proofs.Ytdjcaogffppdhaa.AtX Go.Proofs.Ytdjcaogffppdhaa.Log
open Go.Proofs.YtdjcaogffppdhaaW.PrintWords Go.Proofs.YtdjcaogffppdhaaW.PrintLast Go.Proofs.YtdjcaogffppdhaaW.PrintMore
set_option maxHeartbeats 16000000 in
set_option maxRecDepth 100000 in
theorem walk (n : Int) (w : World) : Calls Try.prog 8 #[.int .i64 n] w fun e w' => e = .returned (.bool true) ∧ Below w.heap.size w w' := by
  have hrm : ((Med.new.arm 0).remove 5).2 = 40 ∧ ((Med.new.arm 0).remove 5).1.off = true := by constructor <;> decide
  obtain ⟨M, hM⟩ : ∃ M, M = ((Med.new.arm 0).remove 5).1 := ⟨_, rfl⟩
  have HM := Aside0.mk hM
  have HR := Aside0.mk hrm
  clear hM hrm
  go_enter Try.func8, Try.ntmps8
  go_wp2_with (fail)
  refine (append_nil _ _).mono ?_
  rintro e w1 ⟨rfl, rfl⟩
  go_wp2_with (fail)
  refine (open_nil _).mono ?_
  rintro e w2 ⟨rfl, hb⟩
  have HB := Aside0.mk hb
  clear hb
  go_wp2_with (fail)
  refine (AtX.new w2).mono ?_
  rintro e w3 ⟨b, rfl, h3⟩
  have H3 := Aside0.mk h3
  clear h3
  go_wp2_with (fail)
  refine (H3.out.arm_calls 0 (by decide)).mono ?_
  rintro e w4 ⟨rfl, h4, _⟩
  have H4 := Aside0.mk h4
  clear h4 H3
  go_wp2_with (fail)
  have crm := H4.out.remove_calls 5 (by decide)
  rw [HR.out.1] at crm
  refine crm.mono ?_
  rintro e w5 ⟨rfl, h5, _⟩
  have H5 := Aside0.mk h5
  clear h5 H4 crm
  go_wp2_with (fail)
  obtain ⟨own, hm, _⟩ := H5.out.med
  refine (open_off hm HR.out.2).mono ?_
  rintro e w6 ⟨rfl, h6⟩
  have HB6 : Aside0 (Below w.heap.size w w6) := ⟨HB.out.trans ((H5.out.below.trans (h6.mono H5.out.below.size)).mono HB.out.size)⟩
  clear h6 hm H5 HB
  go_wp2_with (first
    | (go_at_call 34; refine (trim_nil _ _).mono ?_; rintro e wA ⟨rfl, rfl⟩)
    | (go_at_call 36; refine (next_nil _).mono ?_; rintro e wA ⟨rfl, rfl⟩)
    | (go_at_call 35; refine (sectors_nil _).mono ?_; rintro e wA ⟨rfl, rfl⟩)
    | (go_at_call 37; refine (awake_calls _).mono ?_; rintro e w7 ⟨rfl, h7⟩; have HB7 := Aside0.mk (HB6.out.trans (h7.mono HB6.out.size)); clear h7))
  go_ret
  exact ⟨rfl, HB7.out⟩
end Go.Proofs.Ytdjcaogffppdhaa.LawLNil
