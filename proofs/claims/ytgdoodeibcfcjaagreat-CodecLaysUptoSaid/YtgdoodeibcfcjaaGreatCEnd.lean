/- What is wrong with what was read. -/
import Derived.Test.YtgdoodeibcfcjaaGreatCHouse
set_option linter.unusedVariables false
set_option linter.unusedSimpArgs false
namespace Go.Proofs.YtgdoodeibcfcjaaGreat.Wire
open Go.RowKit Go.Proofs.YtgdoodeibcfcjaaGreat.NumsPure Go.Proofs.YtgdoodeibcfcjaaGreat.CPure Go.Proofs.YtgdoodeibcfcjaaGreat.Own
def endN (s : Rd) : Int := if s.bad then 44 else if s.D = [] then 0 else 45
set_option maxHeartbeats 4000000 in
set_option maxRecDepth 100000 in
theorem end_r {wb : Nat} {s : Rd} {w : World} (h : Rw wb s w) : Calls Tryz.prog 39 #[.pointer (some ⟨wb, 0, none⟩)] w fun e w' => e = .returned (.int .i64 (endN s)) ∧ w' = w := by
  obtain ⟨c0, c1, c2, cf⟩ := h.cells
  clear h
  obtain ⟨D, bad⟩ := s
  simp only at c1 c2
  cases bad with
  | true =>
    have HE : Aside0 (endN ⟨D, true⟩ = 44) := ⟨rfl⟩
    go_enter Tryz.func39, Tryz.ntmps39
    go_wp2
    go_ret
    exact ⟨by rw [HE.out]; rfl, rfl⟩
  | false =>
    cases D with
    | nil =>
      have HE : Aside0 (endN ⟨[], false⟩ = 0) := ⟨rfl⟩
      have he : (⟨([] : List UInt8).toArray⟩ : ByteArray).toList.isEmpty = true := by rw [ByteArray.toList_eq]; rfl
      obtain ⟨S, hS⟩ : ∃ S : ByteArray, S = ⟨([] : List UInt8).toArray⟩ := ⟨_, rfl⟩
      rw [← hS] at c1 he
      clear hS
      go_enter Tryz.func39, Tryz.ntmps39
      go_wp2
      go_ret
      exact ⟨by rw [HE.out]; rfl, rfl⟩
    | cons c r =>
      have HE : Aside0 (endN ⟨c :: r, false⟩ = 45) := ⟨rfl⟩
      have he : (⟨(c :: r).toArray⟩ : ByteArray).toList.isEmpty = false := by rw [ByteArray.toList_eq]; rfl
      obtain ⟨S, hS⟩ : ∃ S : ByteArray, S = ⟨(c :: r).toArray⟩ := ⟨_, rfl⟩
      rw [← hS] at c1 he
      clear hS
      go_enter Tryz.func39, Tryz.ntmps39
      go_wp2
      go_ret
      exact ⟨by rw [HE.out]; rfl, rfl⟩
end Go.Proofs.YtgdoodeibcfcjaaGreat.Wire
