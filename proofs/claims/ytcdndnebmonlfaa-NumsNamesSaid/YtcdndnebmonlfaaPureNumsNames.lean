/- The statement NumsNames of the program's layer 1, over the functions that the printed texts tell. -/
import Derived.Test.YtcdndnebmonlfaaNumsAwake
set_option linter.unusedVariables false
namespace Go.Proofs.Ytcdndnebmonlfaa.Pure
open Go.RowKit Go.Proofs.Ytcdndnebmonlfaa.Print Go.Proofs.Ytcdndnebmonlfaa.NumsPure Go.Proofs.YtcdndnebmonlfaaW.PrintWords Go.Proofs.YtcdndnebmonlfaaW.PrintLast Go.Proofs.YtcdndnebmonlfaaW.PrintMore
open Go.Proofs.Ytcdndnebmonlfaa.Put (digits digits_lt digits_ge)
/-- What the loop over the bytes has found. -/
theorem names_l0 (s : ByteArray) (hs : s.size ≤ 140737488351232) (e : Int) (d : Nat) : ∀ (k : Nat) (good : Bool) (i : Int), 0 ≤ i → i ≤ s.size → (s.size : Int) - i = d → d + 70 < k →
    (12 < s.size → e = 4) → (¬ 12 < s.size → e = if (good && !(s.data.toList.drop i.toNat).any badB) = true then 0 else 3) → stevedorelaw01_NumsNames.l0 k s e good i = some true := by
  induction d with
  | zero =>
    intro k good i h0 h1 hd hk h4 h3
    obtain ⟨k, rfl⟩ : ∃ m, k = m + 1 := ⟨k - 1, by omega⟩
    simp only [stevedorelaw01_NumsNames.l0]
    rw [if_neg (by omega)]
    rw [awake_at (by omega)]
    simp only [Option.bind_some]
    by_cases h : 12 < s.size
    · rw [if_pos (by omega), if_pos (h4 h)]
    · rw [if_neg (by omega)]
      have h3 := h3 h
      rw [drop_end s i (by omega)] at h3
      cases good with
      | true => simp at h3; subst h3; rfl
      | false => simp at h3; subst h3; rfl
  | succ d ih =>
    intro k good i h0 h1 hd hk h4 h3
    obtain ⟨k, rfl⟩ : ∃ m, k = m + 1 := ⟨k - 1, by omega⟩
    obtain ⟨c, hc, hbt⟩ := bt_cons s i h0 (by omega)
    simp only [stevedorelaw01_NumsNames.l0]
    rw [if_pos (by omega), if_pos h0, wrap_id (x := i + 1) (by omega) (by omega), hbt]
    rw [hc] at h3
    cases good with
    | false =>
      rw [if_neg (show ¬ (false = true) by decide)]
      exact ih k false (i + 1) (by omega) (by omega) (by omega) (by omega) h4 (fun h => by rw [h3 h]; simp)
    | true =>
      rw [if_pos rfl]
      by_cases h33 : ((c.toNat : Nat) : Int) ≥ 33
      · rw [if_pos h33]
        refine ih k _ (i + 1) (by omega) (by omega) (by omega) (by omega) h4 (fun h => ?_)
        have : (decide (((c.toNat : Nat) : Int) ≤ 126)) = !badB c := by
          rw [Bool.eq_iff_iff]; simp only [badB, Bool.not_eq_true', Bool.or_eq_false_iff, decide_eq_true_eq, decide_eq_false_iff_not]; omega
        rw [h3 h, this]
        simp
      · rw [if_neg h33]
        refine ih k _ (i + 1) (by omega) (by omega) (by omega) (by omega) h4 (fun h => ?_)
        have : badB c = true := by simp [badB]; omega
        rw [h3 h]
        simp [this]
theorem NumsNames : stevedorelaw01_NumsNames.Pure := by
  intro s hs
  refine ⟨s.size + 100, ?_⟩
  unfold stevedorelaw01_NumsNames.f
  rw [nums_Name_at s (by omega)]
  simp only [Option.bind_some]
  refine names_l0 s hs _ s.size _ _ 0 (by omega) (by omega) (by omega) (by omega) (fun h => ?_) (fun h => ?_)
  · unfold nameL; rw [size_len, if_pos h]
  · unfold nameL
    rw [size_len, if_neg h]
    have : decide ((s.size : Int) ≥ 1) = !s.data.toList.isEmpty := by
      have hl := size_len s
      cases hx : s.data.toList with
      | nil => rw [hx] at hl; simp at hl; simp [← hl]
      | cons a l => rw [hx] at hl; simp at hl; simp; omega
    rw [this]
    show _ = if (!s.data.toList.isEmpty && !s.data.toList.any badB) = true then (0 : Int) else 3
    cases s.data.toList.isEmpty <;> cases s.data.toList.any badB <;> rfl
end Go.Proofs.Ytcdndnebmonlfaa.Pure
