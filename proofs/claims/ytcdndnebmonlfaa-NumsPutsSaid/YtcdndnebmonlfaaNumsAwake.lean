/- The chapter's examples, as the printed function answers them. -/
import Derived.Test.YtcdndnebmonlfaaNumsPure
set_option linter.unusedVariables false
namespace Go.Proofs.Ytcdndnebmonlfaa.NumsPure
open Go.RowKit Go.Proofs.Ytcdndnebmonlfaa.Print Go.Proofs.YtcdndnebmonlfaaW.PrintWords Go.Proofs.YtcdndnebmonlfaaW.PrintLast Go.Proofs.YtcdndnebmonlfaaW.PrintMore
open Go.Proofs.Ytcdndnebmonlfaa.Put (digits digits_lt digits_ge)

theorem awake_at {k : Nat} (hk : 60 ≤ k) : stevedorelaw01_awake.f k = some true := by
  unfold stevedorelaw01_awake.f
  have e1 : nums_Take.f k (⟨#[128, 0]⟩ : ByteArray) = some (0, (⟨#[]⟩ : ByteArray), 44) := by
    rw [nums_Take_at _ (by decide) (by omega)]; rfl
  have e2 : nums_TakeText.f k (⟨#[3, 97, 98]⟩ : ByteArray) = some ((⟨#[]⟩ : ByteArray), (⟨#[]⟩ : ByteArray), 44) := by
    rw [nums_TakeText_at _ (by decide) (by omega)]; rfl
  have e3 : nums_Put.f ([0, 127, 128] : List Int) = some (⟨#[0, 127, 128, 1]⟩ : ByteArray) := by
    rw [nums_Put_at _ (by simp [Lit.wf, IntKind.min, IntKind.max, IntKind.signed, IntKind.bits]) (by simp)]
    have : Put.putAll [0, 127, 128] = [0, 127, 128, 1] := by
      simp only [Put.putAll, List.flatMap_cons, List.flatMap_nil]
      rw [digits_lt (n := (0 : Int).toNat) (by decide), digits_lt (n := (127 : Int).toNat) (by decide), digits_ge (n := (128 : Int).toNat) (by decide), digits_lt (by decide)]
      rfl
    rw [this]
  have e4 : nums_Text.f (⟨#[97, 98]⟩ : ByteArray) = some (⟨#[2, 97, 98]⟩ : ByteArray) := by
    rw [nums_Text_at _ (by decide)]
    unfold textOf
    rw [digits_lt (by decide)]
    rfl
  have e5 : nums_Name.f k (⟨#[97, 32, 98]⟩ : ByteArray) = some 3 := by rw [nums_Name_at _ (by omega)]; rfl
  have e6 : nums_Name.f k (⟨#[65, 66, 67, 68, 69, 70, 71, 72, 73, 74, 75, 76, 77]⟩ : ByteArray) = some 4 := by rw [nums_Name_at _ (by omega)]; rfl
  have e7 : nums_Sum.f k (⟨#[]⟩ : ByteArray) = some 1 := by rw [nums_Sum_at _ (by decide) (by show 1 ≤ k; omega)]; rfl
  have e8 : nums_Sum.f k (⟨#[97]⟩ : ByteArray) = some 128 := by rw [nums_Sum_at _ (by decide) (by show 2 ≤ k; omega)]; rfl
  rw [e1, e2, e3, e4, e5, e6, e7, e8]
  simp only [Option.bind_some, if_true]
  rw [if_pos (by simp [ByteArray.toList_eq]), if_pos (by simp [ByteArray.toList_eq])]
  rfl
end Go.Proofs.Ytcdndnebmonlfaa.NumsPure
