/- The law's own sectors. -/
import Derived.Test.YtdjcaogffppdhaaArr
import Derived.Test.YtdjcaogffppdhaaBase41
set_option linter.unusedVariables false
set_option linter.unusedSimpArgs false
namespace Go.Proofs.Ytdjcaogffppdhaa.Full
open Go.RowKit Go.Proofs.Ytdjcaogffppdhaa.SumPure Go.Proofs.Ytdjcaogffppdhaa.Arr Go.Proofs.YtdjcaogffppdhaaW.PrintWords Go.Proofs.YtdjcaogffppdhaaW.PrintLast Go.Proofs.YtdjcaogffppdhaaW.PrintMore
def fullS (b : Int) (odd : Bool) : ByteArray := ⟨(List.replicate (if odd then 63 else 64) (b8 b)).toArray⟩
theorem fullS_size (b : Int) : (fullS b false).size = 64 := by
  unfold fullS; rw [size_mk]; simp
theorem fullS_le (b : Int) (odd : Bool) : (fullS b odd).size ≤ 64 := by
  unfold fullS; rw [size_mk]; cases odd <;> simp
theorem full_l0 (b : Int) (odd : Bool) (d : Nat) : ∀ (k i : Nat), i ≤ 64 → 64 - i = d → d < k →
    stevedorelaw03_full.l0 k b odd (List.replicate i (b % 256) ++ List.replicate (64 - i) 0) i = some (fullS b odd) := by
  have key : ∀ n : Nat, strOfNums (List.replicate n (b % 256)) = ⟨(List.replicate n (b8 b)).toArray⟩ := fun n => by
    rw [show List.replicate n (b % 256) = ints (List.replicate n (b8 b)) from by simp [ints, b8_int], str_ints]
  induction d with
  | zero =>
    intro k i hi hd hk
    obtain ⟨k, rfl⟩ : ∃ m, k = m + 1 := ⟨k - 1, by omega⟩
    obtain rfl : i = 64 := by omega
    simp only [stevedorelaw03_full.l0]
    rw [if_neg (by simp), Nat.sub_self, show List.replicate 0 (0 : Int) = [] from rfl, List.append_nil]
    cases odd with
    | true =>
      rw [if_pos rfl, if_pos (by simp), List.drop_replicate, key]; rfl
    | false =>
      rw [if_neg (by decide), key]; rfl
  | succ d ih =>
    intro k i hi hd hk
    obtain ⟨k, rfl⟩ : ∃ m, k = m + 1 := ⟨k - 1, by omega⟩
    simp only [stevedorelaw03_full.l0]
    rw [if_pos (by simp; omega), if_pos (by omega), wrap_id (x := (i : Int) + 1) (by omega) (by omega)]
    have e : (List.replicate i (b % 256) ++ List.replicate (64 - i) 0).set ((i : Int)).toNat (b % 256) = List.replicate (i + 1) (b % 256) ++ List.replicate (64 - (i + 1)) 0 := by
      rw [show ((i : Int)).toNat = i from by omega, List.set_append_right _ _ (by simp), show 64 - i = (64 - (i + 1)) + 1 from by omega, List.replicate_succ]
      simp [List.replicate_succ']
    rw [e, show ((i : Int) + 1) = ((i + 1 : Nat) : Int) from by omega]
    exact ih k (i + 1) (by omega) (by omega) (by omega)
theorem full_at (b : Int) (odd : Bool) : stevedorelaw03_full.f 65 b odd = some (fullS b odd) := by
  unfold stevedorelaw03_full.f
  rw [if_pos (by decide)]
  have := full_l0 b odd 64 65 0 (by omega) (by omega) (by omega)
  exact this
theorem full_any (b : Int) (odd : Bool) (w : World) : Calls Try.prog 13 #[.int .i64 b, .bool odd] w fun e w' => e = .returned (.string (fullS b odd)) ∧ Below w.heap.size w w' :=
  stevedorelaw03_full.calls 65 b odd _ w (full_at b odd)
end Go.Proofs.Ytdjcaogffppdhaa.Full
