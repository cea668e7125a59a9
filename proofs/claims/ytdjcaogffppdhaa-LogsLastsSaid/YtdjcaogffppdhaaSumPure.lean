/- What nums.Sum and its reference answer, as functions of lists of bytes. -/
import Derived.Test.YtdjcaogffppdhaaBase
import Derived.Laws.BitsAllLaws
import Derived.Laws.Bits128
import Derived.Lib.Strings
set_option linter.unusedVariables false
namespace Go.Proofs.Ytdjcaogffppdhaa.SumPure
open Go.RowKit Go.Proofs.YtdjcaogffppdhaaW.PrintWords Go.Proofs.YtdjcaogffppdhaaW.PrintLast Go.Proofs.YtdjcaogffppdhaaW.PrintMore

theorem size_len (s : ByteArray) : s.data.toList.length = s.size := by simp
theorem bt_cons (s : ByteArray) (i : Int) (h0 : 0 ≤ i) (h : i < (s.size : Int)) :
    ∃ c : UInt8, s.data.toList.drop i.toNat = c :: s.data.toList.drop (i + 1).toNat ∧ bt s i = (c.toNat : Int) := by
  have hl : i.toNat < s.data.toList.length := by rw [size_len]; omega
  refine ⟨s.data.toList[i.toNat], ?_, ?_⟩
  · rw [List.drop_eq_getElem_cons hl, show (i + 1).toNat = i.toNat + 1 from by omega]
  · unfold bt; rw [dif_pos (by omega)]; rfl
theorem drop_end (s : ByteArray) (i : Int) (h : (s.size : Int) ≤ i) : s.data.toList.drop i.toNat = [] := by
  rw [List.drop_eq_nil_iff, size_len]; omega
theorem ba_ext {a b : ByteArray} (h : a.data.toList = b.data.toList) : a = b := by
  cases a; cases b; simp at h; rw [h]
theorem toList_nil (s : ByteArray) : s.toList = [] ↔ s.data.toList = [] := by
  rw [ByteArray.toList_eq]
theorem wrap_id {x : Int} (h0 : -9223372036854775808 ≤ x) (h1 : x ≤ 9223372036854775807) : wrap64 x = x := by unfold wrap64; omega

/-! ### The check of bytes -/
def sumL (n : Int) : List UInt8 → Int
  | [] => n
  | c :: l => sumL ((n * 31 + (c.toNat : Int)) % 65521) l
theorem sumL_append (n : Int) (a b : List UInt8) : sumL n (a ++ b) = sumL (sumL n a) b := by
  induction a generalizing n with
  | nil => rfl
  | cons c a ih => exact ih _
theorem sumL_range (n : Int) (l : List UInt8) (h0 : 0 ≤ n) (h1 : n < 65521) : 0 ≤ sumL n l ∧ sumL n l < 65521 := by
  induction l generalizing n with
  | nil => exact ⟨h0, h1⟩
  | cons c l ih => exact ih _ (by omega) (by omega)
theorem sum_round {n b : Int} (h0 : 0 ≤ n) (h1 : n < 65521) (b0 : 0 ≤ b) (b1 : b ≤ 255) :
    Int.tmod (wrap64 ((wrap64 (n * 31)) + (wrap64 b))) 65521 = (n * 31 + b) % 65521 := by
  rw [wrap_id (x := n * 31) (by omega) (by omega), wrap_id (x := b) (by omega) (by omega), wrap_id (by omega) (by omega), Int.tmod_eq_emod_of_nonneg (by omega)]
theorem nums_Sum_l0 (s : ByteArray) (hs : s.size ≤ 1000000000000000) (d : Nat) : ∀ (k : Nat) (n i : Int), 0 ≤ n → n < 65521 → 0 ≤ i → i ≤ s.size → (s.size : Int) - i = d → d < k →
    nums_Sum.l0 k s n (s.size : Int) i = some (sumL n (s.data.toList.drop i.toNat)) := by
  induction d with
  | zero =>
    intro k n i n0 n1 h0 h1 hd hk
    obtain ⟨k, rfl⟩ : ∃ m, k = m + 1 := ⟨k - 1, by omega⟩
    simp only [nums_Sum.l0]; rw [if_neg (by omega), drop_end s i (by omega)]; rfl
  | succ d ih =>
    intro k n i n0 n1 h0 h1 hd hk
    obtain ⟨k, rfl⟩ : ∃ m, k = m + 1 := ⟨k - 1, by omega⟩
    obtain ⟨c, hc, hb⟩ := bt_cons s i h0 (by omega)
    have hr := bt_range s i
    simp only [nums_Sum.l0]
    rw [if_pos (by omega), if_pos h0, if_pos (by omega), sum_round n0 n1 hr.1 hr.2, wrap_id (x := i + 1) (by omega) (by omega), ih k _ (i + 1) (by omega) (by omega) (by omega) (by omega) (by omega) (by omega), hc, hb]
    rfl
theorem nums_Sum_ev (s : ByteArray) (hs : s.size ≤ 1000000000000000) : Ev (fun k => nums_Sum.f k s) (sumL 1 s.data.toList) :=
  ⟨s.size + 1, fun k hk => by show nums_Sum.f k s = _; unfold nums_Sum.f; rw [nums_Sum_l0 s hs s.size k 1 0 (by omega) (by omega) (by omega) (by omega) (by omega) (by omega)]; rfl⟩
theorem nums_Sum_at (s : ByteArray) (hs : s.size ≤ 1000000000000000) {k : Nat} (hk : s.size + 1 ≤ k) : nums_Sum.f k s = some (sumL 1 s.data.toList) := by
  unfold nums_Sum.f; rw [nums_Sum_l0 s hs s.size k 1 0 (by omega) (by omega) (by omega) (by omega) (by omega) (by omega)]; rfl
theorem size_mk (r : List UInt8) : ByteArray.size ⟨r.toArray⟩ = r.length := by show r.toArray.size = _; simp
theorem ba_append (a b : List UInt8) : (⟨a.toArray⟩ : ByteArray) ++ ⟨b.toArray⟩ = ⟨(a ++ b).toArray⟩ := by
  apply ba_ext; simp
theorem ba_eta (s : ByteArray) : (⟨s.data.toList.toArray⟩ : ByteArray) = s := by cases s; simp
theorem wf64 {x : Int} (h : (Lit.int .i64 x).wf = true) : -9223372036854775808 ≤ x ∧ x ≤ 9223372036854775807 := by
  simp only [Lit.wf, IntKind.min, IntKind.max, IntKind.signed, IntKind.bits, Bool.and_eq_true, decide_eq_true_eq, if_true] at h
  omega
def ints (l : List UInt8) : List Int := l.map fun c => (c.toNat : Int)
theorem ints_len (l : List UInt8) : (ints l).length = l.length := by simp [ints]
theorem ints_append (a b : List UInt8) : ints (a ++ b) = ints a ++ ints b := by simp [ints]
theorem str_ints (l : List UInt8) : strOfNums (ints l) = ⟨l.toArray⟩ := by
  unfold strOfNums ints
  rw [List.map_map]
  congr 2
  conv => rhs; rw [← List.map_id l]
  apply List.map_congr_left
  intro c _
  simp
theorem ofNat_toNat {n : Nat} (h : n < 256) : (UInt8.ofNat n).toNat = n := by
  have : (UInt8.ofNat n).toNat = n % 256 := by simp
  omega
theorem extract_drop (s : ByteArray) (i : Nat) (h : i ≤ s.size) : s.extract i s.size = ⟨(s.data.toList.drop i).toArray⟩ := by
  apply ba_ext
  rw [Lib.extract_data]
  show _ = s.data.toList.drop i
  rw [List.take_of_length_le]; rw [List.length_drop, size_len]; omega
theorem extract_mid (s : ByteArray) (i j : Nat) : s.extract i j = ⟨((s.data.toList.drop i).take (j - i)).toArray⟩ := by
  apply ba_ext
  rw [Lib.extract_data]
end Go.Proofs.Ytdjcaogffppdhaa.SumPure
