/- slots' calls on a media beside other things in memory. -/
import Derived.Test.YtojehachhfcfaaaAtX
import Derived.Test.YtojehachhfcfaaaAt
set_option linter.unusedVariables false
set_option linter.unusedSimpArgs false
namespace Go.Proofs.Ytojehachhfcfaaa.AtX
open Go.RowKit Go.Proofs.Ytojehachhfcfaaa.SumPure Go.Proofs.Ytojehachhfcfaaa.SlSect Go.Proofs.Ytojehachhfcfaaa.Save Go.Proofs.Ytojehachhfcfaaa.SlPure Go.Proofs.Ytojehachhfcfaaa.SlLaw
open Go.Proofs.YtojehachhfcfaaaW.PrintWords Go.Proofs.YtojehachhfcfaaaW.PrintLast Go.Proofs.YtojehachhfcfaaaW.PrintMore
open Go.Proofs.Ytojehachhfcfaaa.Med (IsMed Med Ranged IsSize)
attribute [local go_sem] max2_int min2_int max_two min_two
section
variable {w0 w : World} {X : Nat → Prop} {b : Nat} {M : Med} {n : Nat}
theorem AtX.save_calls (h : AtX w0 X b M n w) (x : Int) (d : ByteArray) (hd : d.size ≤ 1000000000000000) (hn : n < 4611686018427000000) :
    Calls Try.prog 24 #[.pointer (some ⟨b, 0, none⟩), .int .i64 x, .string d] w fun e w' => e = .returned (.int .i64 (save M x d.data.toList).2) ∧ AtX w0 X b (save M x d.data.toList).1 (n + 3 * scnt d.size) w' ∧ Same X w w' := by
  obtain ⟨own, hm, ho⟩ := h.med
  exact (Save.save_calls hm x d hd hn).mono fun e w' ⟨he, hl⟩ => ⟨he, h.left ho hl⟩
theorem AtX.load_calls (h : AtX w0 X b M n w) : Calls Try.prog 27 #[.pointer (some ⟨b, 0, none⟩)] w fun e w' => e = .returned (.tuple #[.int .i64 (newest M).1, .string ⟨(newest M).2.1.toArray⟩, .int .i64 (newest M).2.2]) ∧ AtX w0 X b M n w' ∧ Same X w w' := by
  obtain ⟨own, hm, ho⟩ := h.med
  exact (Load.load_calls hm).mono fun e w' ⟨he, hb⟩ => ⟨he, h.after hb, Same.below h.lt hb⟩
end
set_option maxHeartbeats 4000000 in
set_option maxRecDepth 100000 in
/-- slots.Sectors leaves memory alone. -/
theorem sectors_q (s : Nat) (hs : s ≤ 1000000000000000) (w : World) : Calls Try.prog 25 #[.int .i64 (s : Int)] w fun e w' => e = .returned (.int .i64 (scnt s : Int)) ∧ w = w' := by
  obtain ⟨r, hr⟩ : ∃ r : Int, r = (scnt s : Int) := ⟨_, rfl⟩
  rw [← hr]
  have HR : Aside0 (r = ((max 1 ((s + 52) / 53) : Nat) : Int)) := ⟨hr⟩
  clear hr
  have h0 : ¬((s : Int) < 0) := by omega
  go_enter Try.func25, Try.ntmps25
  go_wp2
  all_goals
    go_ret
    exact ⟨congrArg (fun x => Ending.returned (.int .i64 x)) (by rw [HR.out]; omega), rfl⟩
end Go.Proofs.Ytojehachhfcfaaa.AtX
