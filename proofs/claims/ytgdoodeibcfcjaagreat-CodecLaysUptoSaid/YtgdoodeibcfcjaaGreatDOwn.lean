/- Numbers' bytes in plain Lean; words of my own that the codec's texts need. Printed by down.py out of my texts XPut and XNumsPure. -/
import Derived.Test.YtgdoodeibcfcjaaGreatBldS
import Derived.Below
import Derived.WalkKit
import Derived.Laws.BitsAllLaws
import Derived.Laws.Bits128
import Derived.Laws.OwnMore
import Derived.Lib.ConvBytes
import Derived.Lib.AppendStr
import Derived.RowKit
set_option linter.unusedVariables false
namespace Go.Proofs.YtgdoodeibcfcjaaGreat.Own
open Go.RowKit
/-- A fact that the walk does not look into. -/
structure Aside0 (p : Prop) : Prop where mk :: (out : p)
theorem grown_of_below {w w1 : World} (h : Below w.heap.size w w1) (row : Option Nat) : w.grownBy w1 row := ⟨h.os, h.tape, h.output, h.size, fun i hi _ => h.block i hi⟩
theorem own_below {w w1 : World} {base : Nat} {e : TypeId} {size n : Nat} {v : Value} {xs : List Value} (h : w.ownsRow base e size v n xs) (hb : Below w.heap.size w w1) : w1.ownsRow base e size v n xs :=
  h.kept (grown_of_below hb none) (by cases v.ownBlock <;> simp)
end Go.Proofs.YtgdoodeibcfcjaaGreat.Own
namespace Go.Proofs.YtgdoodeibcfcjaaGreat.Put
open Go.RowKit
def digits (n : Nat) : List UInt8 := if n < 128 then [UInt8.ofNat n] else UInt8.ofNat (n % 128 + 128) :: digits (n / 128)
  termination_by n
  decreasing_by omega

theorem digits_lt {n : Nat} (h : n < 128) : digits n = [UInt8.ofNat n] := by rw [digits, if_pos h]

theorem digits_ge {n : Nat} (h : ¬ n < 128) : digits n = UInt8.ofNat (n % 128 + 128) :: digits (n / 128) := by rw [digits, if_neg h]

theorem digits_len (n : Nat) : 1 ≤ (digits n).length := by
  by_cases h : n < 128
  · rw [digits_lt h]; simp
  · rw [digits_ge h]; simp

theorem cells_snoc (a : List UInt8) (b : UInt8) : Lib.byteCells (a ++ [b]) = Lib.byteCells a ++ [.int .u8 (b.toNat : Int)] := by simp [Lib.byteCells]

theorem low_byte (m : Int) (h0 : 0 ≤ m) (h : m < 128) : m % 256 = ((UInt8.ofNat m.toNat).toNat : Int) := by
  have : (UInt8.ofNat m.toNat).toNat = m.toNat % 256 := by simp
  rw [this]; omega

theorem high_byte (m : Int) (h0 : 0 ≤ m) : m % 128 + 128 = ((UInt8.ofNat (m.toNat % 128 + 128)).toNat : Int) := by
  have : (UInt8.ofNat (m.toNat % 128 + 128)).toNat = (m.toNat % 128 + 128) % 256 := by simp
  rw [this]; omega

theorem or128 (m : Int) : bits .or .u8 (m % 256) 128 = m % 128 + 128 := by
  rw [u8_or _ _ (by omega) (by omega) (by omega) (by omega)]
  have h : ∀ n : Fin 256, (n.val ||| 128) = n.val % 128 + 128 := by decide +kernel
  have h1 := h ⟨(m % 256).toNat, by omega⟩
  simp only at h1
  show (((m % 256).toNat ||| 128 : Nat) : Int) = _
  rw [h1]
  omega
end Go.Proofs.YtgdoodeibcfcjaaGreat.Put
namespace Go.Proofs.YtgdoodeibcfcjaaGreat.NumsPure
open Go.RowKit
open Go.Proofs.YtgdoodeibcfcjaaGreat.Put (digits digits_lt digits_ge)


theorem size_len (s : ByteArray) : s.data.toList.length = s.size := by simp

theorem drop_end (s : ByteArray) (i : Int) (h : (s.size : Int) ≤ i) : s.data.toList.drop i.toNat = [] := by
  rw [List.drop_eq_nil_iff, size_len]; omega

theorem ba_ext {a b : ByteArray} (h : a.data.toList = b.data.toList) : a = b := by
  cases a; cases b; simp at h; rw [h]

theorem toList_nil (s : ByteArray) : s.toList = [] ↔ s.data.toList = [] := by
  rw [ByteArray.toList_eq]

theorem wrap_id {x : Int} (h0 : -9223372036854775808 ≤ x) (h1 : x ≤ 9223372036854775807) : wrap64 x = x := by unfold wrap64; omega

def V : List UInt8 → Nat
  | [] => 0
  | c :: r => c.toNat % 128 + 128 * V r

theorem V_snoc (l : List UInt8) (c : UInt8) : V (l ++ [c]) = V l + 128 ^ l.length * (c.toNat % 128) := by
  induction l with
  | nil => simp [V]
  | cons a l ih =>
    show a.toNat % 128 + 128 * V (l ++ [c]) = _
    rw [ih]
    simp only [V, List.length_cons, Nat.pow_succ, Nat.mul_add]
    have : 128 * (128 ^ l.length * (c.toNat % 128)) = 128 ^ l.length * 128 * (c.toNat % 128) := by rw [← Nat.mul_assoc, Nat.mul_comm 128]
    omega

theorem V_lt (l : List UInt8) : V l < 128 ^ l.length := by
  induction l with
  | nil => simp [V]
  | cons a l ih => simp only [V, List.length_cons, Nat.pow_succ]; omega

def T (first : Bool) : Nat → List UInt8 → Option (Nat × List UInt8)
  | 0, _ => none
  | _ + 1, [] => none
  | f + 1, c :: r => if c.toNat < 128 then (if c.toNat = 0 ∧ first = false then none else some (c.toNat, r)) else (T false f r).map fun p => (c.toNat % 128 + 128 * p.1, p.2)

def takeA : Option (Nat × List UInt8) → Int × ByteArray × Int
  | none => (0, (⟨#[]⟩ : ByteArray), 44)
  | some (n, r) => ((n : Int), ⟨r.toArray⟩, 0)

theorem T_lt {first : Bool} {f : Nat} {l r : List UInt8} {n : Nat} (h : T first f l = some (n, r)) : n < 128 ^ f := by
  induction f generalizing first l n r with
  | zero => cases h
  | succ f ih =>
    cases l with
    | nil => cases h
    | cons c l =>
      simp only [T] at h
      by_cases hc : c.toNat < 128
      · rw [if_pos hc] at h
        split at h
        · cases h
        · simp at h
          have : 1 ≤ 128 ^ f := Nat.one_le_pow _ _ (by omega)
          rw [Nat.pow_succ]; omega
      · rw [if_neg hc] at h
        cases hT : T false f l with
        | none => rw [hT] at h; cases h
        | some p =>
          obtain ⟨m, q⟩ := p
          rw [hT] at h
          simp at h
          have := ih hT
          rw [Nat.pow_succ]; omega

theorem or_add (a b k : Nat) (hb : b < 2 ^ k) (h : a * 2 ^ k + b < 9223372036854775808) : bits .or .i64 ((a * 2 ^ k : Nat) : Int) (b : Int) = ((a * 2 ^ k + b : Nat) : Int) := by
  show IntKind.i64.wrap ((BitVec.ofInt 64 ((a * 2 ^ k : Nat) : Int) ||| BitVec.ofInt 64 (b : Int)).toNat : Int) = _
  rw [BitVec.toNat_or, BitVec.ofInt_natCast, BitVec.ofInt_natCast, BitVec.toNat_ofNat, BitVec.toNat_ofNat, Nat.mod_eq_of_lt (by omega), Nat.mod_eq_of_lt (by omega)]
  have e : a * 2 ^ k ||| b = a * 2 ^ k + b := by
    rw [← Nat.shiftLeft_eq, Nat.shiftLeft_add_eq_or_of_lt hb]
  rw [e, IntKind.wrap_i64]; omega

theorem or_add' (a b k : Nat) (hb : b < 2 ^ k) (h : a * 2 ^ k + b < 9223372036854775808) : bits .or .i64 (b : Int) ((a * 2 ^ k : Nat) : Int) = ((b + a * 2 ^ k : Nat) : Int) := by
  show IntKind.i64.wrap ((BitVec.ofInt 64 (b : Int) ||| BitVec.ofInt 64 ((a * 2 ^ k : Nat) : Int)).toNat : Int) = _
  rw [BitVec.toNat_or, BitVec.ofInt_natCast, BitVec.ofInt_natCast, BitVec.toNat_ofNat, BitVec.toNat_ofNat, Nat.mod_eq_of_lt (by omega), Nat.mod_eq_of_lt (by omega)]
  have e : b ||| a * 2 ^ k = b + a * 2 ^ k := by
    rw [Nat.or_comm, ← Nat.shiftLeft_eq, ← Nat.shiftLeft_add_eq_or_of_lt hb, Nat.add_comm]
  rw [e, IntKind.wrap_i64]; omega

theorem andNot128 (c : Nat) (h : c < 256) : bits .andNot .u8 (c : Int) 128 = ((c % 128 : Nat) : Int) := by
  rw [u8_andNot _ _ (by omega) (by omega) (by omega) (by omega)]
  have h1 : ∀ n : Fin 256, (n.val &&& (255 - 128)) = n.val % 128 := by decide +kernel
  have h2 := h1 ⟨c, h⟩
  exact congrArg (fun n : Nat => (n : Int)) h2

theorem T_at (e : Nat) : ∀ (first : Bool) (f : Nat) (l : List UInt8), e < f → (∀ j, j < e → ∃ c, l[j]? = some c ∧ 128 ≤ c.toNat) → ∀ c, l[e]? = some c → c.toNat < 128 →
    T first f l = if c.toNat = 0 ∧ (first = false ∨ 0 < e) then none else some (V (l.take (e + 1)), l.drop (e + 1)) := by
  induction e with
  | zero =>
    intro first f l hf _ c hc h
    obtain ⟨f, rfl⟩ : ∃ m, f = m + 1 := ⟨f - 1, by omega⟩
    cases l with
    | nil => simp at hc
    | cons a l =>
      simp at hc
      subst hc
      simp only [T]
      rw [if_pos h]
      simp [V, Nat.mod_eq_of_lt h]
  | succ e ih =>
    intro first f l hf hl c hc h
    obtain ⟨f, rfl⟩ : ∃ m, f = m + 1 := ⟨f - 1, by omega⟩
    cases l with
    | nil => simp at hc
    | cons a l =>
      obtain ⟨a', ha, ha'⟩ := hl 0 (by omega)
      simp at ha
      subst ha
      simp only [T]
      rw [if_neg (by omega), ih false f l (by omega) (fun j hj => by simpa using hl (j + 1) (by omega)) c (by simpa using hc) h]
      by_cases h0 : c.toNat = 0
      · simp [h0]
      · simp [h0, V]

theorem T_none (f : Nat) : ∀ (first : Bool) (l : List UInt8), (∀ j c, j < f → l[j]? = some c → 128 ≤ c.toNat) → T first f l = none := by
  induction f with
  | zero => intro _ _ _; rfl
  | succ f ih =>
    intro first l h
    cases l with
    | nil => rfl
    | cons a l =>
      simp only [T]
      rw [if_neg (by have := h 0 a (by omega) rfl; omega), ih false l (fun j c hj hc => h (j + 1) c (by omega) (by simpa using hc))]
      rfl

theorem take_snoc' (l : List UInt8) (j : Nat) (c : UInt8) (h : l[j]? = some c) : l.take (j + 1) = l.take j ++ [c] := by
  rw [List.take_add_one, h]; rfl

theorem extract_drop (s : ByteArray) (i : Nat) (h : i ≤ s.size) : s.extract i s.size = ⟨(s.data.toList.drop i).toArray⟩ := by
  apply ba_ext
  rw [Lib.extract_data]
  show _ = s.data.toList.drop i
  rw [List.take_of_length_le]; rw [List.length_drop, size_len]; omega

def textA : Option (Nat × List UInt8) → ByteArray × ByteArray × Int
  | none => ((⟨#[]⟩ : ByteArray), (⟨#[]⟩ : ByteArray), 44)
  | some (n, r) => if r.length < n then ((⟨#[]⟩ : ByteArray), (⟨#[]⟩ : ByteArray), 44) else (⟨(r.take n).toArray⟩, ⟨(r.drop n).toArray⟩, 0)

theorem extract_take (r : List UInt8) (n : Nat) (h : n ≤ r.length) : ByteArray.extract ⟨r.toArray⟩ 0 n = ⟨(r.take n).toArray⟩ := by
  apply ba_ext
  rw [Lib.extract_data]
  simp

theorem extract_rest (r : List UInt8) (n : Nat) (h : n ≤ r.length) : ByteArray.extract ⟨r.toArray⟩ n (ByteArray.size ⟨r.toArray⟩) = ⟨(r.drop n).toArray⟩ := by
  rw [extract_drop _ _ (by show n ≤ r.toArray.size; simpa using h)]

theorem size_mk (r : List UInt8) : ByteArray.size ⟨r.toArray⟩ = r.length := by show r.toArray.size = _; simp

theorem ofNat_toNat {n : Nat} (h : n < 256) : (UInt8.ofNat n).toNat = n := by
  have : (UInt8.ofNat n).toNat = n % 256 := by simp
  omega

theorem T_digits (f : Nat) : ∀ (first : Bool) (n : Nat) (rest : List UInt8), n < 128 ^ (f + 1) → (first = true ∨ 0 < n) → T first (f + 1) (digits n ++ rest) = some (n, rest) := by
  induction f with
  | zero =>
    intro first n rest h h'
    have hn : n < 128 := by simpa using h
    rw [digits_lt hn]
    simp only [List.cons_append, List.nil_append, T]
    rw [ofNat_toNat (by omega), if_pos hn, if_neg]
    rintro ⟨h1, h2⟩
    rcases h' with h' | h'
    · rw [h'] at h2; cases h2
    · omega
  | succ f ih =>
    intro first n rest h h'
    by_cases hn : n < 128
    · rw [digits_lt hn]
      simp only [List.cons_append, List.nil_append, T]
      rw [ofNat_toNat (by omega), if_pos hn, if_neg]
      rintro ⟨h1, h2⟩
      rcases h' with h' | h'
      · rw [h'] at h2; cases h2
      · omega
    · rw [digits_ge hn]
      have := ih false (n / 128) rest (by rw [Nat.pow_succ] at h; omega) (.inr (by omega))
      rw [List.cons_append]
      show (if _ then _ else (T false (f + 1) _).map _) = _
      rw [this, ofNat_toNat (by omega), if_neg (by omega)]
      simp only [Option.map_some, Option.some.injEq, Prod.mk.injEq, and_true]
      omega

theorem digits_T (f : Nat) : ∀ (first : Bool) (l r : List UInt8) (n : Nat), T first f l = some (n, r) → l = digits n ++ r ∧ (first = false → 0 < n) := by
  induction f with
  | zero => intro first l r n h; cases h
  | succ f ih =>
    intro first l r n h
    cases l with
    | nil => cases h
    | cons c l =>
      simp only [T] at h
      have hcl := c.toNat_lt
      by_cases hc : c.toNat < 128
      · rw [if_pos hc] at h
        by_cases hz : c.toNat = 0 ∧ first = false
        · rw [if_pos hz] at h; cases h
        · rw [if_neg hz] at h
          simp only [Option.some.injEq, Prod.mk.injEq] at h
          obtain ⟨rfl, rfl⟩ := h
          refine ⟨by rw [digits_lt hc]; simp, fun hf => ?_⟩
          rcases Nat.eq_zero_or_pos c.toNat with h0 | h0
          · exact absurd ⟨h0, hf⟩ hz
          · exact h0
      · rw [if_neg hc] at h
        cases hT : T false f l with
        | none => rw [hT] at h; cases h
        | some p =>
          obtain ⟨m, q⟩ := p
          rw [hT] at h
          simp only [Option.map_some, Option.some.injEq, Prod.mk.injEq] at h
          obtain ⟨rfl, rfl⟩ := h
          obtain ⟨h1, h2⟩ := ih _ _ _ _ hT
          have hm := h2 rfl
          refine ⟨?_, fun _ => by omega⟩
          rw [digits_ge (by omega), show (c.toNat % 128 + 128 * m) / 128 = m from by omega, show (c.toNat % 128 + 128 * m) % 128 + 128 = c.toNat from by omega, h1]
          simp

theorem digits_le (f : Nat) : ∀ n, n < 128 ^ (f + 1) → (digits n).length ≤ f + 1 := by
  induction f with
  | zero => intro n h; rw [digits_lt (by simpa using h)]; simp
  | succ f ih =>
    intro n h
    by_cases hn : n < 128
    · rw [digits_lt hn]; simp
    · rw [digits_ge hn]
      have := ih (n / 128) (by rw [Nat.pow_succ] at h; omega)
      simp only [List.length_cons]; omega

theorem p9 : 128 ^ 9 = 9223372036854775808 := by decide

theorem wf64 {x : Int} (h : (Lit.int .i64 x).wf = true) : -9223372036854775808 ≤ x ∧ x ≤ 9223372036854775807 := by
  simp only [Lit.wf, IntKind.min, IntKind.max, IntKind.signed, IntKind.bits, Bool.and_eq_true, decide_eq_true_eq, if_true] at h
  omega

theorem ba_append (a b : List UInt8) : (⟨a.toArray⟩ : ByteArray) ++ ⟨b.toArray⟩ = ⟨(a ++ b).toArray⟩ := by
  apply ba_ext; simp

theorem ba_eta (s : ByteArray) : (⟨s.data.toList.toArray⟩ : ByteArray) = s := by cases s; simp
end Go.Proofs.YtgdoodeibcfcjaaGreat.NumsPure
namespace Go.Proofs.YtgdoodeibcfcjaaGreat.CPure
open Go.Proofs.YtgdoodeibcfcjaaGreat.Put (digits)
/-- A number's own bounds: what fold makes of it. -/
def clampN (z : Int) : Int := min (max z (-4611686018427387904)) 4611686018427387903
def foldN (z : Int) : Nat := (if clampN z < 0 then -2 * clampN z - 1 else 2 * clampN z).toNat
def unfoldN (n : Nat) : Int := if n % 2 ≠ 0 then -((n / 2 : Nat) : Int) - 1 else ((n / 2 : Nat) : Int)
theorem clamp_bd (z : Int) : -4611686018427387904 ≤ clampN z ∧ clampN z ≤ 4611686018427387903 := by unfold clampN; omega
def textB (s : ByteArray) : List UInt8 := digits s.size ++ s.data.toList
end Go.Proofs.YtgdoodeibcfcjaaGreat.CPure
