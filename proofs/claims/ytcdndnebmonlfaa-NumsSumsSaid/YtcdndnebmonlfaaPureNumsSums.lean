/- The statement NumsSums of the program's layer 1, over the functions that the printed texts tell. -/
import Derived.Test.YtcdndnebmonlfaaNumsAwake
set_option linter.unusedVariables false
namespace Go.Proofs.Ytcdndnebmonlfaa.Pure
open Go.RowKit Go.Proofs.Ytcdndnebmonlfaa.Print Go.Proofs.Ytcdndnebmonlfaa.NumsPure Go.Proofs.YtcdndnebmonlfaaW.PrintWords Go.Proofs.YtcdndnebmonlfaaW.PrintLast Go.Proofs.YtcdndnebmonlfaaW.PrintMore
open Go.Proofs.Ytcdndnebmonlfaa.Put (digits digits_lt digits_ge)
theorem sums_l0 (a b : ByteArray) (ha : a.size ≤ 140737488351232) (hb : b.size ≤ 140737488351232) (d : Nat) : ∀ (k : Nat) (n i : Int), 0 ≤ n → n < 65521 → 0 ≤ i → i ≤ b.size → (b.size : Int) - i = d → d + a.size + b.size + 70 < k →
    sumL n (b.data.toList.drop i.toNat) = sumL 1 (a.data.toList ++ b.data.toList) → stevedorelaw01_NumsSums.l0 k a b n i = some true := by
  induction d with
  | zero =>
    intro k n i n0 n1 h0 h1 hd hk h
    obtain ⟨k, rfl⟩ : ∃ m, k = m + 1 := ⟨k - 1, by omega⟩
    simp only [stevedorelaw01_NumsSums.l0]
    have hab : (a ++ b).size = a.size + b.size := by simp
    rw [if_neg (by omega), if_pos (by omega), nums_Sum_at _ (by omega) (by omega)]
    simp only [Option.bind_some]
    rw [drop_end b i (by omega)] at h
    rw [if_pos (by rw [show (a ++ b).data.toList = a.data.toList ++ b.data.toList from by simp, ← h]; rfl), awake_at (by omega)]
    rfl
  | succ d ih =>
    intro k n i n0 n1 h0 h1 hd hk h
    obtain ⟨k, rfl⟩ : ∃ m, k = m + 1 := ⟨k - 1, by omega⟩
    obtain ⟨c, hc, hbt⟩ := bt_cons b i h0 (by omega)
    have hr := bt_range b i
    simp only [stevedorelaw01_NumsSums.l0]
    rw [if_pos (by omega), if_pos h0, sum_round n0 n1 hr.1 hr.2, wrap_id (x := i + 1) (by omega) (by omega)]
    refine ih k _ (i + 1) (by omega) (by omega) (by omega) (by omega) (by omega) (by omega) ?_
    rw [hc] at h
    rw [hbt]
    exact h
theorem NumsSums : stevedorelaw01_NumsSums.Pure := by
  intro a b ha hb
  refine ⟨a.size + b.size + b.size + 100, ?_⟩
  unfold stevedorelaw01_NumsSums.f
  have hr := sumL_range 1 a.data.toList (by omega) (by omega)
  rw [nums_Sum_at a (by omega) (by omega)]
  simp only [Option.bind_some]
  rw [if_neg (by omega), decide_eq_false (show ¬ sumL 1 a.data.toList ≥ 65521 by omega)]
  obtain ⟨k, hk⟩ : ∃ k, a.size + b.size + b.size + 100 = k + 1 := ⟨a.size + b.size + b.size + 99, by omega⟩
  rw [hk]
  simp only [stevedorelaw01_NumsSums.j0]
  rw [if_neg (by decide)]
  exact sums_l0 a b ha hb b.size k _ 0 (by omega) (by omega) (by omega) (by omega) (by omega) (by omega) (by rw [sumL_append]; rfl)
end Go.Proofs.Ytcdndnebmonlfaa.Pure
