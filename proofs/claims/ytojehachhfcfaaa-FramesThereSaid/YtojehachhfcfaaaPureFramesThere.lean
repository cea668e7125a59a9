/- The statement FramesThere of the program's layer 4, over the functions that the printed texts tell. -/
import Derived.Test.YtojehachhfcfaaaFramesK
import Derived.Test.YtojehachhfcfaaaPrint7
set_option linter.unusedVariables false
namespace Go.Proofs.Ytojehachhfcfaaa.Pure
open Go.RowKit Go.Proofs.Ytojehachhfcfaaa.SumPure Go.Proofs.Ytojehachhfcfaaa.Sect Go.Proofs.Ytojehachhfcfaaa.FramesPure Go.Proofs.Ytojehachhfcfaaa.Print Go.Proofs.YtojehachhfcfaaaW.PrintWords Go.Proofs.YtojehachhfcfaaaW.PrintLast Go.Proofs.YtojehachhfcfaaaW.PrintMore
theorem there_l0 (ss : List ByteArray) (hs : ss.length ≤ 1000000000000000) (m : Nat) : ∀ (k i : Nat), i + m = ss.length → m + 100 ≤ k → stevedorelaw04_FramesThere.l0 k ss (i : Int) = some true := by
  induction m with
  | zero =>
    intro k i hi hk
    obtain ⟨k, rfl⟩ : ∃ m, k = m + 1 := ⟨k - 1, by omega⟩
    simp only [stevedorelaw04_FramesThere.l0]
    rw [if_neg (by omega), awake_at (by omega)]; rfl
  | succ m ih =>
    intro k i hi hk
    obtain ⟨k, rfl⟩ : ∃ m, k = m + 1 := ⟨k - 1, by omega⟩
    have h1 : i < ss.length := by omega
    simp only [stevedorelaw04_FramesThere.l0]
    rw [if_pos (by omega), if_pos (by omega), rd_at _ ss i ss[i] (by simp [h1]), Tell_at _ (by omega), Option.bind_some, wrap_id (x := (i : Int) + 1) (by omega) (by omega)]
    have hi' := ih k (i + 1) (by omega) (by omega)
    rw [show ((i + 1 : Nat) : Int) = (i : Int) + 1 from by omega] at hi'
    rcases ht : tellP ss[i].data.toList with _ | ⟨n, p, q, d⟩
    · rw [show tellT none = (0, 0, 0, ⟨#[]⟩, 43) from rfl]
      dsimp only
      rw [if_neg (by decide)]; exact hi'
    · rw [show tellT (some (n, p, q, d)) = (n, p, q, ⟨d.toArray⟩, 0) from rfl]
      dsimp only
      obtain ⟨⟨o1, o2, o3, o4, o5, o6, o7, _⟩, _⟩ := tellP_some ht
      rw [if_pos rfl, if_neg (by omega), if_neg (by omega), if_neg (by omega), if_neg (by omega), if_neg (by rw [size_mk]; omega)]; exact hi'
theorem FramesThere (l : List ByteArray) (hl : l.length * 16 ≤ 140737488351232) : ∃ k, stevedorelaw04_FramesThere.f k l = some true := by
  refine ⟨l.length + 300, ?_⟩
  unfold stevedorelaw04_FramesThere.f
  have hj0 : stevedorelaw04_FramesThere.j0 (l.length + 300) l = some true := by
    rw [show l.length + 300 = l.length + 299 + 1 from rfl]
    simp only [stevedorelaw04_FramesThere.j0]
    exact there_l0 l (by omega) l.length (l.length + 299) 0 (by omega) (by omega)
  rw [Join_at l (by omega) (by omega), Option.bind_some]
  rcases join_back l with hj | ⟨n, D, hok, hsec, hle, hj⟩
  · rw [hj]
    dsimp only
    rw [if_neg (by decide), if_pos (by decide), if_pos (by decide), if_pos (by simp [ByteArray.toList_eq]), if_pos (by decide)]
    exact hj0
  · rw [hj]
    dsimp only
    have h8 := (cnt_le D.length).2 hok.2.2
    have hp := cnt_pos D.length
    have e : layP n D = (secs n D, 0) := by unfold layP; rw [if_pos hok]
    rw [if_pos rfl, Lay_at n _ (by rw [size_mk]; have := hok.2.2; omega) (by omega), Option.bind_some, show (⟨D.toArray⟩ : ByteArray).data.toList = D from by simp, e]
    dsimp only
    rw [if_pos rfl, if_neg (by omega), if_neg (by omega), if_pos (by omega), if_pos (by omega), Int.toNat_natCast, ← hsec, texts_at _ _ (by rw [secs_len]; omega) (by rw [secs_len]; omega), Option.bind_some, if_pos (by simp)]
    exact hj0
end Go.Proofs.Ytojehachhfcfaaa.Pure
