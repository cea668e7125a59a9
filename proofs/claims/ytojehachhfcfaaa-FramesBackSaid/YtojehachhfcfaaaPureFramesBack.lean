/- The statement FramesBack of the program's layer 4, over the functions that the printed texts tell. -/
import Derived.Test.YtojehachhfcfaaaFramesK
import Derived.Test.YtojehachhfcfaaaPrint6
set_option linter.unusedVariables false
namespace Go.Proofs.Ytojehachhfcfaaa.Pure
open Go.RowKit Go.Proofs.Ytojehachhfcfaaa.SumPure Go.Proofs.Ytojehachhfcfaaa.Sect Go.Proofs.Ytojehachhfcfaaa.FramesPure Go.Proofs.Ytojehachhfcfaaa.Print Go.Proofs.YtojehachhfcfaaaW.PrintWords Go.Proofs.YtojehachhfcfaaaW.PrintLast Go.Proofs.YtojehachhfcfaaaW.PrintMore
theorem back_l0 {n : Int} {D : List UInt8} (h : okLay n D) (m : Nat) : ∀ (k i : Nat), i + m = cnt D.length → m + 100 ≤ k → stevedorelaw04_FramesBack.l0 k (secs n D) (i : Int) = some true := by
  have h8 := (cnt_le D.length).2 h.2.2
  induction m with
  | zero =>
    intro k i hi hk
    obtain ⟨k, rfl⟩ : ∃ m, k = m + 1 := ⟨k - 1, by omega⟩
    simp only [stevedorelaw04_FramesBack.l0]
    rw [if_neg (by rw [secs_len]; omega), awake_at (by omega)]; rfl
  | succ m ih =>
    intro k i hi hk
    obtain ⟨k, rfl⟩ : ∃ m, k = m + 1 := ⟨k - 1, by omega⟩
    simp only [stevedorelaw04_FramesBack.l0]
    rw [if_pos (by rw [secs_len]; omega), if_pos (by omega), if_pos (by rw [secs_len]; omega), Int.toNat_natCast, Join_at _ (by rw [List.length_take, secs_len]; omega) (by omega), join_short h (by omega), Option.bind_some, if_pos (by rfl), rd_at _ _ i _ (sec_get n D i (by omega))]
    have h64 : (secAt n D (cnt D.length) i).size = 64 := by
      unfold secAt; rw [size_mk]; exact sect_len _ _ _ _ (by simp [chunk]; omega)
    rw [if_pos (by rw [h64]; rfl), wrap_id (x := (i : Int) + 1) (by omega) (by omega)]
    exact ih k (i + 1) (by omega) (by omega)
theorem FramesBack (a0 : Int) (a1 : ByteArray) (l : List ByteArray) (w0 : (Lit.int .i64 a0).wf = true) (h1 : a1.size ≤ 140737488351232) (hl : l.length * 16 ≤ 140737488351232) : ∃ k, stevedorelaw04_FramesBack.f k a0 a1 l = some true := by
  refine ⟨300, ?_⟩
  unfold stevedorelaw04_FramesBack.f
  rw [Lay_at a0 a1 (by omega) (by omega), Option.bind_some]
  by_cases h : okLay a0 a1.data.toList
  · have h8 := (cnt_le a1.data.toList.length).2 h.2.2
    have e : layP a0 a1.data.toList = (secs a0 a1.data.toList, 0) := by unfold layP; rw [if_pos h]
    rw [e]
    dsimp only
    rw [if_pos rfl, if_neg (by rw [secs_len]; omega), Option.bind_some, if_pos (by rw [secs_len, List.length_nil]; omega), Option.bind_some, List.nil_append, if_pos (by rw [secs_len]; omega), Join_at _ (by rw [List.length_append, secs_len]; omega) (by omega), join_secs h l, Option.bind_some]
    dsimp only
    rw [if_pos rfl, if_pos rfl, ba_eta, if_pos rfl, secs_len]
    simp only [stevedorelaw04_FramesBack.j0]
    rw [if_neg (by simp)]
    exact back_l0 h (cnt a1.data.toList.length) 299 0 (by omega) (by omega)
  · have e : layP a0 a1.data.toList = ([], 43) := by unfold layP; rw [if_neg h]
    rw [e]
    dsimp only
    rw [if_neg (by decide), if_pos (by decide), if_pos (by rfl), awake_at (by omega)]
    have hs := size_len a1
    by_cases c1 : a0 < 1
    · rw [if_pos c1]; rfl
    by_cases c2 : a0 > 2147483647
    · rw [if_neg c1, if_pos c2]; rfl
    rw [if_neg c1, if_neg c2, if_pos (by unfold okLay at h; omega)]; rfl
end Go.Proofs.Ytojehachhfcfaaa.Pure
