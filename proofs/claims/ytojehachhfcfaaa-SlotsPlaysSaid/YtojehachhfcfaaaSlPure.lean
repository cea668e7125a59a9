/- What slots.small and the law's fill answer, as functions of lists of bytes. -/
import Derived.Test.YtojehachhfcfaaaSave
set_option linter.unusedVariables false
set_option linter.unusedSimpArgs false
namespace Go.Proofs.Ytojehachhfcfaaa.SlPure
open Go.RowKit Go.Proofs.Ytojehachhfcfaaa.SumPure Go.Proofs.Ytojehachhfcfaaa.Arr Go.Proofs.Ytojehachhfcfaaa.SlSect Go.Proofs.Ytojehachhfcfaaa.Save Go.Proofs.YtojehachhfcfaaaW.PrintWords Go.Proofs.YtojehachhfcfaaaW.PrintLast Go.Proofs.YtojehachhfcfaaaW.PrintMore

theorem or256 (x : Int) (c : UInt8) (h0 : 0 ≤ x) (h1 : x < 36028797018963968) : bits .or .i64 (wrap64 (x * 256)) (wrap64 (c.toNat : Int)) = x * 256 + c.toNat := by
  have hc := c.toNat_lt
  rw [wrap_id (x := x * 256) (by omega) (by omega), wrap_id (x := (c.toNat : Int)) (by omega) (by omega)]
  obtain ⟨y, rfl⟩ : ∃ y : Nat, x = y := ⟨x.toNat, by omega⟩
  have hor : y * 256 ||| c.toNat = y * 256 + c.toNat := nat_join 8 _ _ (by omega) (by omega)
  rw [show ((y : Int) * 256) = ((y * 256 : Nat) : Int) from by omega]
  show IntKind.i64.wrap ((BitVec.ofInt 64 ((y * 256 : Nat) : Int) ||| BitVec.ofInt 64 (c.toNat : Int)).toNat : Int) = _
  rw [BitVec.toNat_or, BitVec.ofInt_natCast, BitVec.ofInt_natCast, BitVec.toNat_ofNat, BitVec.toNat_ofNat, Nat.mod_eq_of_lt (by omega), Nat.mod_eq_of_lt (by omega), hor, IntKind.wrap_i64]
  omega
/-- Bytes as a number, the highest one first. -/
def smallL (x : Int) : List UInt8 → Int
  | [] => x
  | c :: l => smallL (x * 256 + (c.toNat : Int)) l
theorem small_l0 (s : ByteArray) (hs : s.size ≤ 4) (d : Nat) : ∀ (k : Nat) (x i : Int), 0 ≤ x → x < 256 ^ i.toNat → 0 ≤ i → i ≤ s.size → (s.size : Int) - i = d → d < k →
    slots_small.l0 k s x (s.size : Int) i = some (smallL x (s.data.toList.drop i.toNat)) := by
  induction d with
  | zero =>
    intro k x i x0 x1 h0 h1 hd hk
    obtain ⟨k, rfl⟩ : ∃ m, k = m + 1 := ⟨k - 1, by omega⟩
    simp only [slots_small.l0]; rw [if_neg (by omega), drop_end s i (by omega)]; rfl
  | succ d ih =>
    intro k x i x0 x1 h0 h1 hd hk
    obtain ⟨k, rfl⟩ : ∃ m, k = m + 1 := ⟨k - 1, by omega⟩
    obtain ⟨c, hc, hb⟩ := bt_cons s i h0 (by omega)
    have hct := c.toNat_lt
    have hx : x < 4294967296 := by
      rcases (show i.toNat = 0 ∨ i.toNat = 1 ∨ i.toNat = 2 ∨ i.toNat = 3 from by omega) with e | e | e | e <;> rw [e] at x1 <;> omega
    simp only [slots_small.l0]
    rw [if_pos (by omega), if_pos h0, if_pos (by omega), hb, or256 x c x0 (by omega), wrap_id (x := i + 1) (by omega) (by omega), ih k _ (i + 1) (by omega) (by
      rw [show (i + 1).toNat = i.toNat + 1 from by omega, Int.pow_succ]
      omega) (by omega) (by omega) (by omega) (by omega), hc]
    rfl
theorem small_at (s : ByteArray) (hs : s.size ≤ 4) {k : Nat} (hk : 5 ≤ k) : slots_small.f k s = some (smallL 0 s.data.toList) := by
  unfold slots_small.f
  rw [small_l0 s hs s.size k 0 0 (by omega) (by simp) (by omega) (by omega) (by omega) (by omega)]; rfl

/-- The law's own bytes. -/
def fillL (n b : Int) : List UInt8 := (List.range (min n.toNat 5000)).map fun (i : Nat) => b8 (b + (i : Int) / 50)
/-- What a sector's bytes say. -/
def sN (l : List UInt8) : Int := smallL 0 (l.take 4)
def sP (l : List UInt8) : Int := smallL 0 ((l.drop 4).take 2)
def sQ (l : List UInt8) : Int := smallL 0 ((l.drop 6).take 2)
def sM (l : List UInt8) : Nat := (l.getD 8 0).toNat
def sD (l : List UInt8) : List UInt8 := (l.drop 9).take (sM l)
/-- Is a sector part i of a snapshot (number n0, q0 parts)? -/
def okSec (l : List UInt8) (i : Nat) (n0 q0 : Int) : Prop := sect (sN l) (sP l) (sQ l) (sD l) = l ∧ sN l = n0 ∧ sQ l = q0 ∧ sP l = i ∧ ((sD l).length = 53 ∨ (i : Int) = sQ l - 1 ∧ (sD l ≠ [] ∨ i = 0))
instance (l : List UInt8) (i : Nat) (n0 q0 : Int) : Decidable (okSec l i n0 q0) := by unfold okSec; infer_instance
/-- The parts from i on, with so many rounds; 'none': the slot isn't whole. -/
def slotL (M : Med.Med) (file : Int) : Nat → Nat → Int → Int → List UInt8 → Option (Int × Int × List UInt8)
  | 0, _, _, _, _ => none
  | k + 1, i, n0, q0, acc =>
    if i = 0 ∨ (i : Int) < q0 then
      match M.read file i with
      | (s, e) => if e = 0 ∧ sM s.data.toList ≤ 53 then
          (if okSec s.data.toList i (if i = 0 then sN s.data.toList else n0) (if i = 0 then sQ s.data.toList else q0) then
            slotL M file k (i + 1) (if i = 0 then sN s.data.toList else n0) (if i = 0 then sQ s.data.toList else q0) (acc ++ sD s.data.toList)
          else none)
        else none
    else some (n0, q0, acc)
theorem smallL_range (l : List UInt8) : ∀ x : Int, 0 ≤ x → 0 ≤ smallL x l ∧ smallL x l < (x + 1) * 256 ^ l.length := by
  induction l with
  | nil => intro x h; simp [smallL]; omega
  | cons c l ih =>
    intro x h
    have hc := c.toNat_lt
    have := ih (x * 256 + (c.toNat : Int)) (by omega)
    refine ⟨this.1, Int.lt_of_lt_of_le this.2 ?_⟩
    rw [List.length_cons, Int.pow_succ, Int.mul_comm (256 ^ l.length) 256, ← Int.mul_assoc]
    exact Int.mul_le_mul_of_nonneg_right (by omega) (Int.pow_nonneg (by omega))
theorem sQ_range (l : List UInt8) : 0 ≤ sQ l ∧ sQ l ≤ 65535 := by
  have h := smallL_range ((l.drop 6).take 2) 0 (by omega)
  have hl : ((l.drop 6).take 2).length ≤ 2 := by rw [List.length_take]; omega
  unfold sQ
  refine ⟨h.1, ?_⟩
  rcases (show ((l.drop 6).take 2).length = 0 ∨ ((l.drop 6).take 2).length = 1 ∨ ((l.drop 6).take 2).length = 2 from by omega) with e | e | e <;> rw [e] at h <;> omega
/-- What a slot holds: its number and bytes, and whether it is whole. -/
def slotP (M : Med.Med) (file : Int) : Int × List UInt8 × Bool :=
  match slotL M file 70000 0 0 0 [] with
  | none => (0, [], false)
  | some (n, q, acc) => if n < 1 ∨ n > 2147483647 ∨ Int.tmod n 2 ≠ file ∨ q < 1 ∨ acc.length > 1000000 then (0, [], false) else (n, acc, true)

end Go.Proofs.Ytojehachhfcfaaa.SlPure
