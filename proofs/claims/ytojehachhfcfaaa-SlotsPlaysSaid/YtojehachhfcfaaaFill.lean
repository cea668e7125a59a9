/- The law's own bytes. -/
import Derived.Test.YtojehachhfcfaaaSlPure
set_option linter.unusedVariables false
set_option linter.unusedSimpArgs false
namespace Go.Proofs.Ytojehachhfcfaaa.Fill
open Go.RowKit Go.Proofs.Ytojehachhfcfaaa.SumPure Go.Proofs.Ytojehachhfcfaaa.Arr Go.Proofs.Ytojehachhfcfaaa.SlPure Go.Proofs.YtojehachhfcfaaaW.PrintWords Go.Proofs.YtojehachhfcfaaaW.PrintLast Go.Proofs.YtojehachhfcfaaaW.PrintMore
def fillAt (b : Int) (i : Nat) : UInt8 := b8 (b + (i : Int) / 50)
theorem b8_wrap (x : Int) : (wrap64 x) % 256 = ((b8 x).toNat : Int) := by rw [b8_int]; unfold wrap64; omega
theorem wrap_idem (x y : Int) (h0 : 0 ≤ y) (h1 : y ≤ 100000) : wrap64 (x + wrap64 y) = wrap64 (x + y) := by rw [wrap_id (x := y) (by omega) (by omega)]
theorem fill_l0 (b : Int) (n : Nat) (hn : n ≤ 5000) (d : Nat) : ∀ (k i : Nat), i ≤ n → n - i = d → d < k →
    stevedorelaw06_fill.l0 k b (ints ((List.range i).map (fillAt b)) ++ List.replicate (n - i) 0) i = some ⟨((List.range n).map (fillAt b)).toArray⟩ := by
  induction d with
  | zero =>
    intro k i hi hd hk
    obtain ⟨k, rfl⟩ : ∃ m, k = m + 1 := ⟨k - 1, by omega⟩
    obtain rfl : i = n := by omega
    simp only [stevedorelaw06_fill.l0]
    rw [if_neg (by simp [ints]), Nat.sub_self, List.replicate_zero, List.append_nil, str_ints]
  | succ d ih =>
    intro k i hi hd hk
    obtain ⟨k, rfl⟩ : ∃ m, k = m + 1 := ⟨k - 1, by omega⟩
    simp only [stevedorelaw06_fill.l0]
    rw [if_pos (by simp [ints]; omega), if_pos (by omega), wrap_id (x := (i : Int) + 1) (by omega) (by omega), Int.tdiv_eq_ediv_of_nonneg (by omega), wrap_idem _ _ (by omega) (by omega), b8_wrap]
    have e : (ints ((List.range i).map (fillAt b)) ++ List.replicate (n - i) 0).set ((i : Int)).toNat (((b8 (b + (i : Int) / 50)).toNat : Int)) = ints ((List.range (i + 1)).map (fillAt b)) ++ List.replicate (n - (i + 1)) 0 := by
      rw [show ((i : Int)).toNat = i from by omega, List.set_append_right _ _ (by simp [ints]), show n - i = (n - (i + 1)) + 1 from by omega, List.replicate_succ]
      simp [ints, List.range_succ, fillAt]
    rw [e, show ((i : Int) + 1) = ((i + 1 : Nat) : Int) from by omega]
    exact ih k (i + 1) (by omega) (by omega) (by omega)
theorem fill_at (n b : Int) {k : Nat} (hk : 5001 ≤ k) : stevedorelaw06_fill.f k n b = some ⟨(fillL n b).toArray⟩ := by
  unfold stevedorelaw06_fill.f
  have h0 : mn (mx n 0) 5000 = ((min n.toNat 5000 : Nat) : Int) := by unfold mn mx; split <;> split <;> omega
  rw [h0, if_pos (by omega), if_pos (by omega)]
  have := fill_l0 b (min n.toNat 5000) (by omega) (min n.toNat 5000) k 0 (by omega) (by omega) (by omega)
  simp only [List.range_zero, List.map_nil, Nat.sub_zero] at this
  exact this
theorem fillL_len (n b : Int) : (fillL n b).length = min n.toNat 5000 := by simp [fillL]
theorem fill_any (n b : Int) (w : World) : Calls Try.prog 22 #[.int .i64 n, .int .i64 b] w fun e w' => e = .returned (.string ⟨(fillL n b).toArray⟩) ∧ Below w.heap.size w w' :=
  stevedorelaw06_fill.calls 5001 n b _ w (fill_at n b (Nat.le_refl _))
end Go.Proofs.Ytojehachhfcfaaa.Fill
