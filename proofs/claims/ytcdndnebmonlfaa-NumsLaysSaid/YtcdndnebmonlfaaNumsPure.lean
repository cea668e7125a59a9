/- What the printed functions of nums and of its reference answer, as functions of lists of bytes. -/
import Derived.Test.YtcdndnebmonlfaaPrint
import Derived.Laws.BitsAllLaws
import Derived.Laws.Bits128
set_option linter.unusedVariables false
namespace Go.Proofs.Ytcdndnebmonlfaa.NumsPure
open Go.RowKit Go.Proofs.Ytcdndnebmonlfaa.Print Go.Proofs.YtcdndnebmonlfaaW.PrintWords Go.Proofs.YtcdndnebmonlfaaW.PrintLast Go.Proofs.YtcdndnebmonlfaaW.PrintMore
open Go.Proofs.Ytcdndnebmonlfaa.Put (digits digits_lt digits_ge)

theorem size_len (s : ByteArray) : s.data.toList.length = s.size := by simp
theorem bt_cons (s : ByteArray) (i : Int) (h0 : 0 ≤ i) (h : i < (s.size : Int)) :
    ∃ c : UInt8, s.data.toList.drop i.toNat = c :: s.data.toList.drop (i + 1).toNat ∧ bt s i = (c.toNat : Int) := by
  have hl : i.toNat < s.data.toList.length := by rw [size_len]; omega
  refine ⟨s.data.toList[i.toNat], ?_, ?_⟩
  · rw [List.drop_eq_getElem_cons hl, show (i + 1).toNat = i.toNat + 1 from by omega]
  · unfold bt; rw [dif_pos (by omega)]; rfl
theorem drop_end (s : ByteArray) (i : Int) (h : (s.size : Int) ≤ i) : s.data.toList.drop i.toNat = [] := by
  rw [List.drop_eq_nil_iff, size_len]; omega
theorem ba_ext {a b : ByteArray} (h : a.data.toList = b.data.toList) : a = b := by
  cases a; cases b; simp at h; rw [h]
theorem toList_nil (s : ByteArray) : s.toList = [] ↔ s.data.toList = [] := by
  rw [ByteArray.toList_eq]
theorem wrap_id {x : Int} (h0 : -9223372036854775808 ≤ x) (h1 : x ≤ 9223372036854775807) : wrap64 x = x := by unfold wrap64; omega

/-! ### The check of bytes -/
def sumL (n : Int) : List UInt8 → Int
  | [] => n
  | c :: l => sumL ((n * 31 + (c.toNat : Int)) % 65521) l
theorem sumL_append (n : Int) (a b : List UInt8) : sumL n (a ++ b) = sumL (sumL n a) b := by
  induction a generalizing n with
  | nil => rfl
  | cons c a ih => exact ih _
theorem sumL_range (n : Int) (l : List UInt8) (h0 : 0 ≤ n) (h1 : n < 65521) : 0 ≤ sumL n l ∧ sumL n l < 65521 := by
  induction l generalizing n with
  | nil => exact ⟨h0, h1⟩
  | cons c l ih => exact ih _ (by omega) (by omega)
theorem sum_round {n b : Int} (h0 : 0 ≤ n) (h1 : n < 65521) (b0 : 0 ≤ b) (b1 : b ≤ 255) :
    Int.tmod (wrap64 ((wrap64 (n * 31)) + (wrap64 b))) 65521 = (n * 31 + b) % 65521 := by
  rw [wrap_id (x := n * 31) (by omega) (by omega), wrap_id (x := b) (by omega) (by omega), wrap_id (by omega) (by omega), Int.tmod_eq_emod_of_nonneg (by omega)]
theorem nums_Sum_l0 (s : ByteArray) (hs : s.size ≤ 1000000000000000) (d : Nat) : ∀ (k : Nat) (n i : Int), 0 ≤ n → n < 65521 → 0 ≤ i → i ≤ s.size → (s.size : Int) - i = d → d < k →
    nums_Sum.l0 k s n (s.size : Int) i = some (sumL n (s.data.toList.drop i.toNat)) := by
  induction d with
  | zero =>
    intro k n i n0 n1 h0 h1 hd hk
    obtain ⟨k, rfl⟩ : ∃ m, k = m + 1 := ⟨k - 1, by omega⟩
    simp only [nums_Sum.l0]; rw [if_neg (by omega), drop_end s i (by omega)]; rfl
  | succ d ih =>
    intro k n i n0 n1 h0 h1 hd hk
    obtain ⟨k, rfl⟩ : ∃ m, k = m + 1 := ⟨k - 1, by omega⟩
    obtain ⟨c, hc, hb⟩ := bt_cons s i h0 (by omega)
    have hr := bt_range s i
    simp only [nums_Sum.l0]
    rw [if_pos (by omega), if_pos h0, if_pos (by omega), sum_round n0 n1 hr.1 hr.2, wrap_id (x := i + 1) (by omega) (by omega), ih k _ (i + 1) (by omega) (by omega) (by omega) (by omega) (by omega) (by omega), hc, hb]
    rfl
theorem nums_Sum_ev (s : ByteArray) (hs : s.size ≤ 1000000000000000) : Ev (fun k => nums_Sum.f k s) (sumL 1 s.data.toList) :=
  ⟨s.size + 1, fun k hk => by show nums_Sum.f k s = _; unfold nums_Sum.f; rw [nums_Sum_l0 s hs s.size k 1 0 (by omega) (by omega) (by omega) (by omega) (by omega) (by omega)]; rfl⟩
theorem ref_Sum_l0 (s : ByteArray) (hs : s.size ≤ 1000000000000000) (d : Nat) : ∀ (k : Nat) (n i : Int), 0 ≤ n → n < 65521 → 0 ≤ i → i ≤ s.size → (s.size : Int) - i = d → d < k →
    stevedoreref01_Sum.l0 k s n i = some (sumL n (s.data.toList.drop i.toNat)) := by
  induction d with
  | zero =>
    intro k n i n0 n1 h0 h1 hd hk
    obtain ⟨k, rfl⟩ : ∃ m, k = m + 1 := ⟨k - 1, by omega⟩
    simp only [stevedoreref01_Sum.l0]; rw [if_neg (by omega), drop_end s i (by omega)]; rfl
  | succ d ih =>
    intro k n i n0 n1 h0 h1 hd hk
    obtain ⟨k, rfl⟩ : ∃ m, k = m + 1 := ⟨k - 1, by omega⟩
    obtain ⟨c, hc, hb⟩ := bt_cons s i h0 (by omega)
    have hr := bt_range s i
    simp only [stevedoreref01_Sum.l0]
    rw [if_pos (by omega), if_pos h0, sum_round n0 n1 hr.1 hr.2, wrap_id (x := i + 1) (by omega) (by omega), ih k _ (i + 1) (by omega) (by omega) (by omega) (by omega) (by omega) (by omega), hc, hb]
    rfl
theorem ref_Sum_ev (s : ByteArray) (hs : s.size ≤ 1000000000000000) : Ev (fun k => stevedoreref01_Sum.f k s) (sumL 1 s.data.toList) :=
  ⟨s.size + 1, fun k hk => by show stevedoreref01_Sum.f k s = _; unfold stevedoreref01_Sum.f; rw [ref_Sum_l0 s hs s.size k 1 0 (by omega) (by omega) (by omega) (by omega) (by omega) (by omega)]; rfl⟩

/-! ### Names -/
def badB (c : UInt8) : Bool := decide (c.toNat ≤ 32) || decide (126 < c.toNat)
def nameL (l : List UInt8) : Int := if 12 < l.length then 4 else if (l.isEmpty || l.any badB) = true then 3 else 0
theorem nums_Name_l0 (s : ByteArray) (hs : s.size ≤ 1000000000000000) (d : Nat) : ∀ (k : Nat) (odd : Bool) (i : Int), 0 ≤ i → i ≤ s.size → (s.size : Int) - i = d → d < k →
    nums_Name.l0 k s odd (s.size : Int) i = some (if (odd || (s.data.toList.drop i.toNat).any badB) = true then 3 else 0) := by
  induction d with
  | zero =>
    intro k odd i h0 h1 hd hk
    obtain ⟨k, rfl⟩ : ∃ m, k = m + 1 := ⟨k - 1, by omega⟩
    simp only [nums_Name.l0]; rw [if_neg (by omega), drop_end s i (by omega)]; cases odd <;> rfl
  | succ d ih =>
    intro k odd i h0 h1 hd hk
    obtain ⟨k, rfl⟩ : ∃ m, k = m + 1 := ⟨k - 1, by omega⟩
    obtain ⟨c, hc, hb⟩ := bt_cons s i h0 (by omega)
    simp only [nums_Name.l0]
    rw [if_pos (by omega), wrap_id (x := i + 1) (by omega) (by omega), hc, hb, if_pos h0]
    rw [if_pos (show i < (s.size : Int) by omega)]
    cases odd with
    | true => rw [if_pos rfl, ih k true (i + 1) (by omega) (by omega) (by omega) (by omega)]; rfl
    | false =>
      rw [if_neg (show ¬ (false = true) by decide)]
      by_cases h32 : ((c.toNat : Nat) : Int) ≤ 32
      · rw [if_pos h32, ih k true (i + 1) (by omega) (by omega) (by omega) (by omega)]
        have : badB c = true := by simp [badB]; omega
        simp [this]
      · rw [if_neg h32, ih k _ (i + 1) (by omega) (by omega) (by omega) (by omega)]
        have : badB c = decide (((c.toNat : Nat) : Int) > 126) := by
          rw [Bool.eq_iff_iff]; simp only [badB, Bool.or_eq_true, decide_eq_true_eq]; omega
        rw [← this]; simp
theorem nums_Name_ev (s : ByteArray) (hs : s.size ≤ 1000000000000000) : Ev (fun k => nums_Name.f k s) (nameL s.data.toList) := by
  refine ⟨s.size + 1, fun k hk => ?_⟩
  show nums_Name.f k s = _
  unfold nums_Name.f nameL
  rw [size_len]
  by_cases h : 12 < s.size
  · rw [if_pos (by omega), if_pos h]
  · rw [if_neg (by omega), if_neg h, nums_Name_l0 s hs s.size k _ 0 (by omega) (by omega) (by omega) (by omega)]
    have : (s.toList == ([] : List UInt8)) = s.data.toList.isEmpty := by
      rw [ByteArray.toList_eq]; cases s.data.toList <;> rfl
    rw [this]; simp
theorem ref_Name_l0 (s : ByteArray) (hs : s.size ≤ 1000000000000000) (d : Nat) : ∀ (k : Nat) (i : Int), 0 ≤ i → i ≤ s.size → (s.size : Int) - i = d → d < k →
    stevedoreref01_Name.l0 k s i = some (if (s.data.toList.isEmpty || (s.data.toList.drop i.toNat).any badB) = true then 3 else 0) := by
  induction d with
  | zero =>
    intro k i h0 h1 hd hk
    obtain ⟨k, rfl⟩ : ∃ m, k = m + 1 := ⟨k - 1, by omega⟩
    simp only [stevedoreref01_Name.l0]; rw [if_neg (by omega), drop_end s i (by omega)]
    by_cases h : s.data.toList = []
    · rw [if_pos ((toList_nil s).2 h), h]; rfl
    · rw [if_neg (fun x => h ((toList_nil s).1 x))]; cases hx : s.data.toList with
      | nil => exact absurd hx h
      | cons a l => rfl
  | succ d ih =>
    intro k i h0 h1 hd hk
    obtain ⟨k, rfl⟩ : ∃ m, k = m + 1 := ⟨k - 1, by omega⟩
    obtain ⟨c, hc, hb⟩ := bt_cons s i h0 (by omega)
    simp only [stevedoreref01_Name.l0]
    rw [if_pos (by omega), wrap_id (x := i + 1) (by omega) (by omega), hc, hb, if_pos h0]
    by_cases h32 : ((c.toNat : Nat) : Int) < 33
    · rw [if_pos h32]
      have : badB c = true := by simp [badB]; omega
      simp [this]
    · rw [if_neg h32]
      by_cases h126 : ((c.toNat : Nat) : Int) > 126
      · rw [if_pos h126]
        have : badB c = true := by simp [badB]; omega
        simp [this]
      · rw [if_neg h126, ih k (i + 1) (by omega) (by omega) (by omega) (by omega)]
        have : badB c = false := by simp [badB]; omega
        simp [this]
theorem ref_Name_ev (s : ByteArray) (hs : s.size ≤ 1000000000000000) : Ev (fun k => stevedoreref01_Name.f k s) (nameL s.data.toList) := by
  refine ⟨s.size + 1, fun k hk => ?_⟩
  show stevedoreref01_Name.f k s = _
  unfold stevedoreref01_Name.f nameL
  rw [size_len]
  by_cases h : 12 < s.size
  · rw [if_pos (by omega), if_pos h]
  · rw [if_neg (by omega), if_neg h, ref_Name_l0 s hs s.size k 0 (by omega) (by omega) (by omega) (by omega)]
    simp

/-! ### A number taken up -/
/-- The number that bytes are, digit by digit. -/
def V : List UInt8 → Nat
  | [] => 0
  | c :: r => c.toNat % 128 + 128 * V r
theorem V_snoc (l : List UInt8) (c : UInt8) : V (l ++ [c]) = V l + 128 ^ l.length * (c.toNat % 128) := by
  induction l with
  | nil => simp [V]
  | cons a l ih =>
    show a.toNat % 128 + 128 * V (l ++ [c]) = _
    rw [ih]
    simp only [V, List.length_cons, Nat.pow_succ, Nat.mul_add]
    have : 128 * (128 ^ l.length * (c.toNat % 128)) = 128 ^ l.length * 128 * (c.toNat % 128) := by rw [← Nat.mul_assoc, Nat.mul_comm 128]
    omega
theorem V_lt (l : List UInt8) : V l < 128 ^ l.length := by
  induction l with
  | nil => simp [V]
  | cons a l ih => simp only [V, List.length_cons, Nat.pow_succ]; omega
/-- What is taken up of bytes: the number and what is left; 'first': no digit stands before; f: how many bytes may be read. -/
def T (first : Bool) : Nat → List UInt8 → Option (Nat × List UInt8)
  | 0, _ => none
  | _ + 1, [] => none
  | f + 1, c :: r => if c.toNat < 128 then (if c.toNat = 0 ∧ first = false then none else some (c.toNat, r)) else (T false f r).map fun p => (c.toNat % 128 + 128 * p.1, p.2)
def takeA : Option (Nat × List UInt8) → Int × ByteArray × Int
  | none => (0, (⟨#[]⟩ : ByteArray), 44)
  | some (n, r) => ((n : Int), ⟨r.toArray⟩, 0)
theorem T_lt {first : Bool} {f : Nat} {l r : List UInt8} {n : Nat} (h : T first f l = some (n, r)) : n < 128 ^ f := by
  induction f generalizing first l n r with
  | zero => cases h
  | succ f ih =>
    cases l with
    | nil => cases h
    | cons c l =>
      simp only [T] at h
      by_cases hc : c.toNat < 128
      · rw [if_pos hc] at h
        split at h
        · cases h
        · simp at h
          have : 1 ≤ 128 ^ f := Nat.one_le_pow _ _ (by omega)
          rw [Nat.pow_succ]; omega
      · rw [if_neg hc] at h
        cases hT : T false f l with
        | none => rw [hT] at h; cases h
        | some p =>
          obtain ⟨m, q⟩ := p
          rw [hT] at h
          simp at h
          have := ih hT
          rw [Nat.pow_succ]; omega
theorem or_add (a b k : Nat) (hb : b < 2 ^ k) (h : a * 2 ^ k + b < 9223372036854775808) : bits .or .i64 ((a * 2 ^ k : Nat) : Int) (b : Int) = ((a * 2 ^ k + b : Nat) : Int) := by
  show IntKind.i64.wrap ((BitVec.ofInt 64 ((a * 2 ^ k : Nat) : Int) ||| BitVec.ofInt 64 (b : Int)).toNat : Int) = _
  rw [BitVec.toNat_or, BitVec.ofInt_natCast, BitVec.ofInt_natCast, BitVec.toNat_ofNat, BitVec.toNat_ofNat, Nat.mod_eq_of_lt (by omega), Nat.mod_eq_of_lt (by omega)]
  have e : a * 2 ^ k ||| b = a * 2 ^ k + b := by
    rw [← Nat.shiftLeft_eq, Nat.shiftLeft_add_eq_or_of_lt hb]
  rw [e, IntKind.wrap_i64]; omega
theorem or_add' (a b k : Nat) (hb : b < 2 ^ k) (h : a * 2 ^ k + b < 9223372036854775808) : bits .or .i64 (b : Int) ((a * 2 ^ k : Nat) : Int) = ((b + a * 2 ^ k : Nat) : Int) := by
  show IntKind.i64.wrap ((BitVec.ofInt 64 (b : Int) ||| BitVec.ofInt 64 ((a * 2 ^ k : Nat) : Int)).toNat : Int) = _
  rw [BitVec.toNat_or, BitVec.ofInt_natCast, BitVec.ofInt_natCast, BitVec.toNat_ofNat, BitVec.toNat_ofNat, Nat.mod_eq_of_lt (by omega), Nat.mod_eq_of_lt (by omega)]
  have e : b ||| a * 2 ^ k = b + a * 2 ^ k := by
    rw [Nat.or_comm, ← Nat.shiftLeft_eq, ← Nat.shiftLeft_add_eq_or_of_lt hb, Nat.add_comm]
  rw [e, IntKind.wrap_i64]; omega
theorem andNot128 (c : Nat) (h : c < 256) : bits .andNot .u8 (c : Int) 128 = ((c % 128 : Nat) : Int) := by
  rw [u8_andNot _ _ (by omega) (by omega) (by omega) (by omega)]
  have h1 : ∀ n : Fin 256, (n.val &&& (255 - 128)) = n.val % 128 := by decide +kernel
  have h2 := h1 ⟨c, h⟩
  exact congrArg (fun n : Nat => (n : Int)) h2

theorem T_at (e : Nat) : ∀ (first : Bool) (f : Nat) (l : List UInt8), e < f → (∀ j, j < e → ∃ c, l[j]? = some c ∧ 128 ≤ c.toNat) → ∀ c, l[e]? = some c → c.toNat < 128 →
    T first f l = if c.toNat = 0 ∧ (first = false ∨ 0 < e) then none else some (V (l.take (e + 1)), l.drop (e + 1)) := by
  induction e with
  | zero =>
    intro first f l hf _ c hc h
    obtain ⟨f, rfl⟩ : ∃ m, f = m + 1 := ⟨f - 1, by omega⟩
    cases l with
    | nil => simp at hc
    | cons a l =>
      simp at hc
      subst hc
      simp only [T]
      rw [if_pos h]
      simp [V, Nat.mod_eq_of_lt h]
  | succ e ih =>
    intro first f l hf hl c hc h
    obtain ⟨f, rfl⟩ : ∃ m, f = m + 1 := ⟨f - 1, by omega⟩
    cases l with
    | nil => simp at hc
    | cons a l =>
      obtain ⟨a', ha, ha'⟩ := hl 0 (by omega)
      simp at ha
      subst ha
      simp only [T]
      rw [if_neg (by omega), ih false f l (by omega) (fun j hj => by simpa using hl (j + 1) (by omega)) c (by simpa using hc) h]
      by_cases h0 : c.toNat = 0
      · simp [h0]
      · simp [h0, V]
theorem T_none (f : Nat) : ∀ (first : Bool) (l : List UInt8), (∀ j c, j < f → l[j]? = some c → 128 ≤ c.toNat) → T first f l = none := by
  induction f with
  | zero => intro _ _ _; rfl
  | succ f ih =>
    intro first l h
    cases l with
    | nil => rfl
    | cons a l =>
      simp only [T]
      rw [if_neg (by have := h 0 a (by omega) rfl; omega), ih false l (fun j c hj hc => h (j + 1) c (by omega) (by simpa using hc))]
      rfl

theorem get_bt (s : ByteArray) (i : Int) (h0 : 0 ≤ i) (h : i < (s.size : Int)) : ∃ c, s.data.toList[i.toNat]? = some c ∧ bt s i = (c.toNat : Int) := by
  obtain ⟨c, hc, hb⟩ := bt_cons s i h0 h
  refine ⟨c, ?_, hb⟩
  have := congrArg List.head? hc
  simpa [List.head?_drop] using this
theorem take_snoc' (l : List UInt8) (j : Nat) (c : UInt8) (h : l[j]? = some c) : l.take (j + 1) = l.take j ++ [c] := by
  rw [List.take_add_one, h]; rfl
theorem extract_drop (s : ByteArray) (i : Nat) (h : i ≤ s.size) : s.extract i s.size = ⟨(s.data.toList.drop i).toArray⟩ := by
  apply ba_ext
  rw [Lib.extract_data]
  show _ = s.data.toList.drop i
  rw [List.take_of_length_le]; rw [List.length_drop, size_len]; omega

/-- The loop down the digits. -/
theorem Take_l1 (s : ByteArray) (hs : s.size ≤ 1000000000000000) (e : Int) (he : e < 9) (he0 : 0 ≤ e) (hes : e < (s.size : Int)) (j : Nat) : ∀ (k : Nat) (x7 : Nat), (j : Int) ≤ e + 1 → (x7 + 1) * 128 ^ j ≤ 9223372036854775808 → j < k →
    nums_Take.l1 k s e (x7 : Int) ((j : Int) - 1) = some (((V (s.data.toList.take j) + 128 ^ j * x7 : Nat) : Int), ⟨(s.data.toList.drop (e + 1).toNat).toArray⟩, 0) := by
  induction j with
  | zero =>
    intro k x7 hj hb hk
    obtain ⟨k, rfl⟩ : ∃ m, k = m + 1 := ⟨k - 1, by omega⟩
    simp only [nums_Take.l1]
    rw [if_neg (by omega), wrap_id (x := e + 1) (by omega) (by omega), if_pos (by omega), if_pos (by omega), extract_drop s _ (by omega)]
    simp [V]
  | succ j ih =>
    intro k x7 hj hb hk
    obtain ⟨k, rfl⟩ : ∃ m, k = m + 1 := ⟨k - 1, by omega⟩
    obtain ⟨c, hc, hbt⟩ := get_bt s (((j + 1 : Nat) : Int) - 1) (by omega) (by omega)
    have hj' : (((j + 1 : Nat) : Int) - 1).toNat = j := by omega
    rw [hj'] at hc
    have hp : 1 ≤ 128 ^ j := Nat.one_le_pow _ _ (by omega)
    have hpp : (x7 + 1) * (128 ^ j * 128) = (x7 * 128 + 128) * 128 ^ j := by rw [Nat.mul_comm (128 ^ j), ← Nat.mul_assoc, Nat.add_mul x7 1 128]
    rw [Nat.pow_succ, hpp] at hb
    have hle : x7 * 128 + 128 ≤ (x7 * 128 + 128) * 128 ^ j := Nat.le_mul_of_pos_right _ (by omega)
    have hcl := c.toNat_lt
    have hb2 : (x7 * 128 + c.toNat % 128 + 1) * 128 ^ j ≤ 9223372036854775808 := Nat.le_trans (Nat.mul_le_mul_right _ (by omega)) hb
    simp only [nums_Take.l1]
    rw [if_pos (by omega), if_pos (by omega), if_pos (by omega), hbt, andNot128 _ (by omega), wrap_id (x := ((c.toNat % 128 : Nat) : Int)) (by omega) (by omega), wrap_id (x := (x7 : Int) * 128) (by omega) (by omega)]
    have hor := or_add x7 (c.toNat % 128) 7 (by omega) (by omega)
    have h128 : ((x7 * 2 ^ 7 : Nat) : Int) = (x7 : Int) * 128 := by simp
    rw [h128] at hor
    rw [hor, wrap_id (x := ((j + 1 : Nat) : Int) - 1 - 1) (by omega) (by omega)]
    have := ih k (x7 * 2 ^ 7 + c.toNat % 128) (by omega) hb2 (by omega)
    rw [show ((j + 1 : Nat) : Int) - 1 - 1 = (j : Int) - 1 from by omega, this, take_snoc' _ j c hc, V_snoc]
    have hlen : (s.data.toList.take j).length = j := by rw [List.length_take, size_len]; omega
    rw [hlen]
    have : V (s.data.toList.take j) + 128 ^ j * (x7 * 2 ^ 7 + c.toNat % 128) = V (s.data.toList.take j) + 128 ^ j * (c.toNat % 128) + 128 ^ j * 128 * x7 := by
      rw [Nat.mul_add, show 128 ^ j * (x7 * 2 ^ 7) = 128 ^ j * 128 * x7 from by rw [Nat.mul_comm x7, ← Nat.mul_assoc]]; omega
    rw [this, Nat.pow_succ]

/-- The digits' end: e, or none. -/
theorem Take_l0 (s : ByteArray) (hs : s.size ≤ 1000000000000000) (d : Nat) : ∀ (k : Nat) (i : Nat), mn (s.size : Int) 9 - i = d → (i : Int) ≤ mn (s.size : Int) 9 → d + 14 < k → (∀ j, j < i → ∃ c, s.data.toList[j]? = some c ∧ 128 ≤ c.toNat) →
    nums_Take.l0 k s (-1) (mn (s.size : Int) 9) (i : Int) = some (takeA (T true 9 s.data.toList)) := by
  have hm : mn (s.size : Int) 9 ≤ 9 ∧ mn (s.size : Int) 9 ≤ (s.size : Int) ∧ (mn (s.size : Int) 9 = 9 ∨ mn (s.size : Int) 9 = (s.size : Int)) := by unfold mn; omega
  induction d with
  | zero =>
    intro k i hd hi hk hl
    obtain ⟨k, rfl⟩ : ∃ m, k = m + 1 := ⟨k - 1, by omega⟩
    simp only [nums_Take.l0]
    rw [if_neg (by omega)]
    obtain ⟨k, rfl⟩ : ∃ m, k = m + 1 := ⟨k - 1, by omega⟩
    simp only [nums_Take.j1]
    rw [if_pos (by omega)]
    obtain ⟨k, rfl⟩ : ∃ m, k = m + 1 := ⟨k - 1, by omega⟩
    simp only [nums_Take.j2]
    rw [if_pos True.intro, T_none]
    · rfl
    · intro j c hj hc
      have hjs : j < s.size := by
        have := (List.getElem?_eq_some_iff.1 hc).1
        rw [size_len] at this; exact this
      obtain ⟨c', hc', h'⟩ := hl j (by omega)
      rw [hc'] at hc
      cases hc
      exact h'
  | succ d ih =>
    intro k i hd hi hk hl
    obtain ⟨k, rfl⟩ : ∃ m, k = m + 1 := ⟨k - 1, by omega⟩
    obtain ⟨c, hc, hb⟩ := get_bt s (i : Int) (by omega) (by omega)
    rw [show ((i : Int)).toNat = i from by omega] at hc
    simp only [nums_Take.l0]
    rw [if_pos (by omega), if_pos (by omega), if_pos (by omega), hb]
    by_cases h128 : c.toNat < 128
    · rw [if_pos (by omega), T_at i true 9 _ (by omega) hl c hc h128]
      obtain ⟨k, rfl⟩ : ∃ m, k = m + 1 := ⟨k - 1, by omega⟩
      simp only [nums_Take.j1]
      rw [if_neg (by omega)]
      have hfin : nums_Take.l1 k s (i : Int) 0 (i : Int) = some (((V (s.data.toList.take (i + 1)) : Nat) : Int), ⟨(s.data.toList.drop (i + 1)).toArray⟩, 0) → True := fun _ => trivial
      have hpow : (0 + 1) * 128 ^ (i + 1) ≤ 9223372036854775808 := by
        have : 128 ^ (i + 1) ≤ 128 ^ 9 := Nat.pow_le_pow_right (by omega) (by omega)
        have e9 : 128 ^ 9 = 9223372036854775808 := by decide
        omega
      by_cases h0 : 0 < i
      · rw [if_pos (by omega), if_pos (by omega), if_pos (by omega), hb]
        obtain ⟨k, rfl⟩ : ∃ m, k = m + 1 := ⟨k - 1, by omega⟩
        simp only [nums_Take.j2]
        by_cases hz : c.toNat = 0
        · rw [hz, if_pos (by rfl), if_pos ⟨rfl, .inr h0⟩]; rfl
        · rw [if_neg (by simp; omega), if_neg (fun h => hz h.1)]
          have := Take_l1 s hs (i : Int) (by omega) (by omega) (by omega) (i + 1) k 0 (by omega) hpow (by omega)
          rw [show (((i + 1 : Nat) : Int) - 1) = (i : Int) from by omega, show ((i : Int) + 1).toNat = i + 1 from by omega] at this
          rw [show ((0 : Nat) : Int) = 0 from rfl] at this
          rw [this]; simp [takeA]
      · rw [if_neg (by omega)]
        obtain ⟨k, rfl⟩ : ∃ m, k = m + 1 := ⟨k - 1, by omega⟩
        simp only [nums_Take.j2]
        rw [if_neg (by decide), if_neg (by simp; omega)]
        have := Take_l1 s hs (i : Int) (by omega) (by omega) (by omega) (i + 1) k 0 (by omega) hpow (by omega)
        rw [show (((i + 1 : Nat) : Int) - 1) = (i : Int) from by omega, show ((i : Int) + 1).toNat = i + 1 from by omega] at this
        rw [show ((0 : Nat) : Int) = 0 from rfl] at this
        rw [this]; simp [takeA]
    · rw [if_neg (by omega), wrap_id (x := (i : Int) + 1) (by omega) (by omega)]
      have := ih k (i + 1) (by omega) (by omega) (by omega) (fun j hj => by
        by_cases e : j = i
        · subst e; exact ⟨c, hc, by omega⟩
        · exact hl j (by omega))
      exact this
theorem nums_Take_ev (s : ByteArray) (hs : s.size ≤ 1000000000000000) : Ev (fun k => nums_Take.f k s) (takeA (T true 9 s.data.toList)) := by
  refine ⟨30, fun k hk => ?_⟩
  show nums_Take.f k s = _
  unfold nums_Take.f
  have hm : mn (s.size : Int) 9 ≤ 9 ∧ 0 ≤ mn (s.size : Int) 9 := by unfold mn; omega
  exact Take_l0 s hs (mn (s.size : Int) 9).toNat k 0 (by omega) (by omega) (by omega) (fun j hj => by omega)

theorem shl_i64 (c i : Nat) (hc : c < 128) (hi : i ≤ 8) : shl .i64 (c : Int) (7 * (i : Int)) = ((c * 2 ^ (7 * i) : Nat) : Int) := by
  unfold shl
  rw [IntKind.wrap_i64, show (7 * (i : Int)).toNat = 7 * i from by omega, Nat.min_eq_left (by show 7 * i ≤ 64; omega)]
  have h1 : c * 2 ^ (7 * i) ≤ 127 * 2 ^ 56 := Nat.mul_le_mul (by omega) (Nat.pow_le_pow_right (by omega) (by omega))
  have h2 : 127 * 2 ^ 56 < 9223372036854775808 := by decide
  have h3 : ((c : Int) * 2 ^ (7 * i)) = ((c * 2 ^ (7 * i) : Nat) : Int) := by simp
  rw [h3]
  omega
/-- The reference's loop. -/
theorem refTake_l0 (s : ByteArray) (hs : s.size ≤ 1000000000000000) (f : Nat) : ∀ (k i x5 : Nat), i + f = 9 → (i : Int) ≤ s.size → x5 < 128 ^ i → 2 * f + 2 < k →
    stevedoreref01_Take.l0 k s (x5 : Int) (i : Int) = some (takeA ((T (decide (i = 0)) f (s.data.toList.drop i)).map fun p => (x5 + 128 ^ i * p.1, p.2))) := by
  induction f with
  | zero =>
    intro k i x5 hi his hx hk
    obtain ⟨k, rfl⟩ : ∃ m, k = m + 1 := ⟨k - 1, by omega⟩
    simp only [stevedoreref01_Take.l0]
    rw [if_neg (by omega)]
    obtain ⟨k, rfl⟩ : ∃ m, k = m + 1 := ⟨k - 1, by omega⟩
    simp only [stevedoreref01_Take.j1]
    rw [if_neg (by decide)]
    rfl
  | succ f ih =>
    intro k i x5 hi his hx hk
    obtain ⟨k, rfl⟩ : ∃ m, k = m + 1 := ⟨k - 1, by omega⟩
    simp only [stevedoreref01_Take.l0]
    rw [if_pos (by omega)]
    obtain ⟨k, rfl⟩ : ∃ m, k = m + 1 := ⟨k - 1, by omega⟩
    simp only [stevedoreref01_Take.j1]
    by_cases hlt : (i : Int) < s.size
    · obtain ⟨c, hc, hb⟩ := bt_cons s (i : Int) (by omega) hlt
      rw [show ((i : Int)).toNat = i from by omega, show ((i : Int) + 1).toNat = i + 1 from by omega] at hc
      have hcl := c.toNat_lt
      have ht : Int.tmod ((c.toNat : Nat) : Int) 128 = ((c.toNat % 128 : Nat) : Int) := by rw [Int.tmod_eq_emod_of_nonneg (by omega)]; omega
      have hp : 2 ^ (7 * i) = 128 ^ i := by rw [Nat.pow_mul]
      have h9 : 128 ^ (i + 1) ≤ 128 ^ 9 := Nat.pow_le_pow_right (by omega) (by omega)
      have e9 : 128 ^ 9 = 9223372036854775808 := by decide
      have hcp : c.toNat % 128 * 128 ^ i + 128 ^ i ≤ 128 ^ (i + 1) := by
        rw [Nat.pow_succ, Nat.mul_comm (128 ^ i)]
        have : (c.toNat % 128 + 1) * 128 ^ i ≤ 128 * 128 ^ i := Nat.mul_le_mul_right _ (by omega)
        rw [Nat.add_mul] at this; omega
      have hor : bits .or .i64 (x5 : Int) (shl .i64 (wrap64 (Int.tmod ((c.toNat : Nat) : Int) 128)) (wrap64 (7 * (i : Int)))) = ((x5 + 128 ^ i * (c.toNat % 128) : Nat) : Int) := by
        rw [ht, wrap_id (x := ((c.toNat % 128 : Nat) : Int)) (by omega) (by omega), wrap_id (x := 7 * (i : Int)) (by omega) (by omega), shl_i64 _ _ (by omega) (by omega), or_add' _ _ _ (by rw [hp]; exact hx) (by rw [hp]; omega), hp, Nat.mul_comm (c.toNat % 128)]
      rw [if_pos (by simpa using hlt), if_pos (by omega), if_pos hlt, if_pos (by rw [wrap_id (x := 7 * (i : Int)) (by omega) (by omega)]; omega), hb, hor, hc, wrap_id (x := (i : Int) + 1) (by omega) (by omega)]
      simp only [T]
      by_cases h128 : c.toNat < 128
      · rw [if_pos (by omega), if_pos h128]
        have hex : (⟨(s.data.toList.drop (i + 1)).toArray⟩ : ByteArray) = s.extract ((i : Int) + 1).toNat s.size := by
          rw [show ((i : Int) + 1).toNat = i + 1 from by omega, extract_drop s _ (by omega)]
        have hmod : c.toNat % 128 = c.toNat := Nat.mod_eq_of_lt h128
        by_cases hz : c.toNat = 0
        · rw [if_pos (by omega)]
          by_cases hi0 : i = 0
          · rw [if_neg (by omega), if_pos (by omega), if_pos (by omega), if_neg (by simp [hi0]), ← hex, hmod]
            rfl
          · rw [if_pos (by omega), if_pos (by simp [hz, hi0])]
            rfl
        · rw [if_neg (by omega), if_pos (by omega), if_pos (by omega), if_neg (fun h => hz h.1), ← hex, hmod]
          rfl
      · rw [if_neg (by omega), if_neg h128]
        have := ih k (i + 1) (x5 + 128 ^ i * (c.toNat % 128)) (by omega) (by omega) (by rw [Nat.mul_comm (128 ^ i)]; omega) (by omega)
        rw [show ((i + 1 : Nat) : Int) = (i : Int) + 1 from by omega] at this
        rw [this, show decide (i + 1 = 0) = false from by simp]
        congr 2
        cases T false f (s.data.toList.drop (i + 1)) with
        | none => rfl
        | some p =>
          simp only [Option.map_some, Nat.pow_succ]
          congr 2
          rw [Nat.mul_add, ← Nat.mul_assoc]; omega
    · rw [if_neg (by simpa using hlt)]
      have : s.data.toList.drop i = [] := by rw [List.drop_eq_nil_iff, size_len]; omega
      rw [this]; rfl
theorem ref_Take_ev (s : ByteArray) (hs : s.size ≤ 1000000000000000) : Ev (fun k => stevedoreref01_Take.f k s) (takeA (T true 9 s.data.toList)) := by
  refine ⟨30, fun k hk => ?_⟩
  show stevedoreref01_Take.f k s = _
  unfold stevedoreref01_Take.f
  have := refTake_l0 s hs 9 k 0 0 (by omega) (by omega) (by omega) (by omega)
  rw [show ((0 : Nat) : Int) = 0 from rfl] at this
  rw [this]
  simp

theorem nums_Take_at (s : ByteArray) (hs : s.size ≤ 1000000000000000) {k : Nat} (hk : 30 ≤ k) : nums_Take.f k s = some (takeA (T true 9 s.data.toList)) := by
  unfold nums_Take.f
  have hm : mn (s.size : Int) 9 ≤ 9 ∧ 0 ≤ mn (s.size : Int) 9 := by unfold mn; omega
  exact Take_l0 s hs (mn (s.size : Int) 9).toNat k 0 (by omega) (by omega) (by omega) (fun j hj => by omega)
theorem ref_Take_at (s : ByteArray) (hs : s.size ≤ 1000000000000000) {k : Nat} (hk : 30 ≤ k) : stevedoreref01_Take.f k s = some (takeA (T true 9 s.data.toList)) := by
  unfold stevedoreref01_Take.f
  have := refTake_l0 s hs 9 k 0 0 (by omega) (by omega) (by omega) (by omega)
  rw [show ((0 : Nat) : Int) = 0 from rfl] at this
  rw [this]
  simp
theorem nums_Sum_at (s : ByteArray) (hs : s.size ≤ 1000000000000000) {k : Nat} (hk : s.size + 1 ≤ k) : nums_Sum.f k s = some (sumL 1 s.data.toList) := by
  unfold nums_Sum.f; rw [nums_Sum_l0 s hs s.size k 1 0 (by omega) (by omega) (by omega) (by omega) (by omega) (by omega)]; rfl
theorem ref_Sum_at (s : ByteArray) (hs : s.size ≤ 1000000000000000) {k : Nat} (hk : s.size + 1 ≤ k) : stevedoreref01_Sum.f k s = some (sumL 1 s.data.toList) := by
  unfold stevedoreref01_Sum.f; rw [ref_Sum_l0 s hs s.size k 1 0 (by omega) (by omega) (by omega) (by omega) (by omega) (by omega)]; rfl
theorem nums_Name_at (s : ByteArray) {k : Nat} (hk : 14 ≤ k) : nums_Name.f k s = some (nameL s.data.toList) := by
  unfold nums_Name.f nameL
  rw [size_len]
  by_cases h : 12 < s.size
  · rw [if_pos (by omega), if_pos h]
  · rw [if_neg (by omega), if_neg h, nums_Name_l0 s (by omega) s.size k _ 0 (by omega) (by omega) (by omega) (by omega)]
    have : (s.toList == ([] : List UInt8)) = s.data.toList.isEmpty := by
      rw [ByteArray.toList_eq]; cases s.data.toList <;> rfl
    rw [this]; simp
theorem ref_Name_at (s : ByteArray) {k : Nat} (hk : 14 ≤ k) : stevedoreref01_Name.f k s = some (nameL s.data.toList) := by
  unfold stevedoreref01_Name.f nameL
  rw [size_len]
  by_cases h : 12 < s.size
  · rw [if_pos (by omega), if_pos h]
  · rw [if_neg (by omega), if_neg h, ref_Name_l0 s (by omega) s.size k 0 (by omega) (by omega) (by omega) (by omega)]
    simp

/-! ### A text taken up -/
def textA : Option (Nat × List UInt8) → ByteArray × ByteArray × Int
  | none => ((⟨#[]⟩ : ByteArray), (⟨#[]⟩ : ByteArray), 44)
  | some (n, r) => if r.length < n then ((⟨#[]⟩ : ByteArray), (⟨#[]⟩ : ByteArray), 44) else (⟨(r.take n).toArray⟩, ⟨(r.drop n).toArray⟩, 0)
theorem extract_take (r : List UInt8) (n : Nat) (h : n ≤ r.length) : ByteArray.extract ⟨r.toArray⟩ 0 n = ⟨(r.take n).toArray⟩ := by
  apply ba_ext
  rw [Lib.extract_data]
  simp
theorem extract_rest (r : List UInt8) (n : Nat) (h : n ≤ r.length) : ByteArray.extract ⟨r.toArray⟩ n (ByteArray.size ⟨r.toArray⟩) = ⟨(r.drop n).toArray⟩ := by
  rw [extract_drop _ _ (by show n ≤ r.toArray.size; simpa using h)]
theorem size_mk (r : List UInt8) : ByteArray.size ⟨r.toArray⟩ = r.length := by show r.toArray.size = _; simp
theorem text_body (n : Nat) (r : List UInt8) :
    (if (0 : Int) = 0 then (if (n : Int) > ((ByteArray.size ⟨r.toArray⟩ : Nat) : Int) then (some ((⟨#[]⟩ : ByteArray), (⟨#[]⟩ : ByteArray), (44 : Int))) else (if 0 ≤ (n : Int) then (if (n : Int) ≤ ((ByteArray.size ⟨r.toArray⟩ : Nat) : Int) then (some (ByteArray.extract ⟨r.toArray⟩ 0 (n : Int).toNat, ByteArray.extract ⟨r.toArray⟩ (n : Int).toNat (ByteArray.size ⟨r.toArray⟩), 0)) else (none)) else (none))) else (some ((⟨#[]⟩ : ByteArray), (⟨#[]⟩ : ByteArray), 44)))
      = some (textA (some (n, r))) := by
  have hz := size_mk r
  simp only [textA]
  rw [if_pos trivial]
  by_cases h : r.length < n
  · rw [if_pos (by omega), if_pos h]
  · rw [if_neg (by omega), if_neg h, if_pos (by omega), if_pos (by omega), show ((n : Int)).toNat = n from by omega, extract_take r n (by omega), extract_rest r n (by omega)]
theorem nums_TakeText_at (s : ByteArray) (hs : s.size ≤ 1000000000000000) {k : Nat} (hk : 30 ≤ k) : nums_TakeText.f k s = some (textA (T true 9 s.data.toList)) := by
  unfold nums_TakeText.f
  rw [nums_Take_at s hs hk]
  simp only [Option.bind_some]
  cases T true 9 s.data.toList with
  | none => rfl
  | some p =>
    obtain ⟨n, r⟩ := p
    exact text_body n r
theorem ref_TakeText_at (s : ByteArray) (hs : s.size ≤ 1000000000000000) {k : Nat} (hk : 30 ≤ k) : stevedoreref01_TakeText.f k s = some (textA (T true 9 s.data.toList)) := by
  unfold stevedoreref01_TakeText.f
  rw [ref_Take_at s hs hk]
  simp only [Option.bind_some]
  cases T true 9 s.data.toList with
  | none => rfl
  | some p =>
    obtain ⟨n, r⟩ := p
    exact text_body n r

/-! ### A number's bytes, taken up -/
theorem ofNat_toNat {n : Nat} (h : n < 256) : (UInt8.ofNat n).toNat = n := by
  have : (UInt8.ofNat n).toNat = n % 256 := by simp
  omega
theorem T_digits (f : Nat) : ∀ (first : Bool) (n : Nat) (rest : List UInt8), n < 128 ^ (f + 1) → (first = true ∨ 0 < n) → T first (f + 1) (digits n ++ rest) = some (n, rest) := by
  induction f with
  | zero =>
    intro first n rest h h'
    have hn : n < 128 := by simpa using h
    rw [digits_lt hn]
    simp only [List.cons_append, List.nil_append, T]
    rw [ofNat_toNat (by omega), if_pos hn, if_neg]
    rintro ⟨h1, h2⟩
    rcases h' with h' | h'
    · rw [h'] at h2; cases h2
    · omega
  | succ f ih =>
    intro first n rest h h'
    by_cases hn : n < 128
    · rw [digits_lt hn]
      simp only [List.cons_append, List.nil_append, T]
      rw [ofNat_toNat (by omega), if_pos hn, if_neg]
      rintro ⟨h1, h2⟩
      rcases h' with h' | h'
      · rw [h'] at h2; cases h2
      · omega
    · rw [digits_ge hn]
      have := ih false (n / 128) rest (by rw [Nat.pow_succ] at h; omega) (.inr (by omega))
      rw [List.cons_append]
      show (if _ then _ else (T false (f + 1) _).map _) = _
      rw [this, ofNat_toNat (by omega), if_neg (by omega)]
      simp only [Option.map_some, Option.some.injEq, Prod.mk.injEq, and_true]
      omega
theorem digits_T (f : Nat) : ∀ (first : Bool) (l r : List UInt8) (n : Nat), T first f l = some (n, r) → l = digits n ++ r ∧ (first = false → 0 < n) := by
  induction f with
  | zero => intro first l r n h; cases h
  | succ f ih =>
    intro first l r n h
    cases l with
    | nil => cases h
    | cons c l =>
      simp only [T] at h
      have hcl := c.toNat_lt
      by_cases hc : c.toNat < 128
      · rw [if_pos hc] at h
        by_cases hz : c.toNat = 0 ∧ first = false
        · rw [if_pos hz] at h; cases h
        · rw [if_neg hz] at h
          simp only [Option.some.injEq, Prod.mk.injEq] at h
          obtain ⟨rfl, rfl⟩ := h
          refine ⟨by rw [digits_lt hc]; simp, fun hf => ?_⟩
          rcases Nat.eq_zero_or_pos c.toNat with h0 | h0
          · exact absurd ⟨h0, hf⟩ hz
          · exact h0
      · rw [if_neg hc] at h
        cases hT : T false f l with
        | none => rw [hT] at h; cases h
        | some p =>
          obtain ⟨m, q⟩ := p
          rw [hT] at h
          simp only [Option.map_some, Option.some.injEq, Prod.mk.injEq] at h
          obtain ⟨rfl, rfl⟩ := h
          obtain ⟨h1, h2⟩ := ih _ _ _ _ hT
          have hm := h2 rfl
          refine ⟨?_, fun _ => by omega⟩
          rw [digits_ge (by omega), show (c.toNat % 128 + 128 * m) / 128 = m from by omega, show (c.toNat % 128 + 128 * m) % 128 + 128 = c.toNat from by omega, h1]
          simp
theorem digits_le (f : Nat) : ∀ n, n < 128 ^ (f + 1) → (digits n).length ≤ f + 1 := by
  induction f with
  | zero => intro n h; rw [digits_lt (by simpa using h)]; simp
  | succ f ih =>
    intro n h
    by_cases hn : n < 128
    · rw [digits_lt hn]; simp
    · rw [digits_ge hn]
      have := ih (n / 128) (by rw [Nat.pow_succ] at h; omega)
      simp only [List.length_cons]; omega
theorem p9 : 128 ^ 9 = 9223372036854775808 := by decide
theorem wf64 {x : Int} (h : (Lit.int .i64 x).wf = true) : -9223372036854775808 ≤ x ∧ x ≤ 9223372036854775807 := by
  simp only [Lit.wf, IntKind.min, IntKind.max, IntKind.signed, IntKind.bits, Bool.and_eq_true, decide_eq_true_eq, if_true] at h
  omega
theorem putAll_len (l : List Int) (h : ∀ x ∈ l, (Lit.int .i64 x).wf = true) : (Put.putAll l).length ≤ 9 * l.length := by
  induction l with
  | nil => simp [Put.putAll]
  | cons a l ih =>
    have h1 := ih (fun x hx => h x (List.mem_cons_of_mem _ hx))
    have h2 := wf64 (h a (List.mem_cons_self ..))
    have h3 := digits_le 8 a.toNat (by rw [p9]; omega)
    have : Put.putAll (a :: l) = digits a.toNat ++ Put.putAll l := rfl
    rw [this, List.length_append, List.length_cons]; omega

/-! ### The reference's Put -/
def ints (l : List UInt8) : List Int := l.map fun c => (c.toNat : Int)
theorem ints_len (l : List UInt8) : (ints l).length = l.length := by simp [ints]
theorem ints_append (a b : List UInt8) : ints (a ++ b) = ints a ++ ints b := by simp [ints]
theorem str_ints (l : List UInt8) : strOfNums (ints l) = ⟨l.toArray⟩ := by
  unfold strOfNums ints
  rw [List.map_map]
  congr 2
  conv => rhs; rw [← List.map_id l]
  apply List.map_congr_left
  intro c _
  simp
theorem ref_Put_at (x0 : List Int) (hw : ∀ x ∈ x0, (Lit.int .i64 x).wf = true) (hl : x0.length ≤ 17592186043904) : stevedoreref01_Put.f x0 = some ⟨(Put.putAll x0).toArray⟩ := by
  unfold stevedoreref01_Put.f
  rw [if_pos ⟨by have := putAll_len x0 hw; omega, by rw [List.all_eq_true]; intro x hx; exact decide_eq_true (wf64 (hw x hx)).2⟩]
theorem nums_Put_at (l : List Int) (hw : ∀ x ∈ l, (Lit.int .i64 x).wf = true) (hl : l.length ≤ 17592186043904) : nums_Put.f l = some ⟨(Put.putAll l).toArray⟩ := by
  unfold nums_Put.f
  rw [if_pos (by have := putAll_len l hw; omega)]

/-! ### Texts -/
theorem ba_append (a b : List UInt8) : (⟨a.toArray⟩ : ByteArray) ++ ⟨b.toArray⟩ = ⟨(a ++ b).toArray⟩ := by
  apply ba_ext; simp
theorem ba_eta (s : ByteArray) : (⟨s.data.toList.toArray⟩ : ByteArray) = s := by cases s; simp
theorem putAll_one (n : Int) : Put.putAll [n] = digits n.toNat := by simp [Put.putAll]
theorem size_wf (s : ByteArray) (hs : s.size ≤ 1000000000000000) : ∀ x ∈ [(s.size : Int)], (Lit.int .i64 x).wf = true := by
  intro x hx
  simp only [List.mem_singleton] at hx
  subst hx
  simp only [Lit.wf, IntKind.min, IntKind.max, IntKind.signed, IntKind.bits, Bool.and_eq_true, decide_eq_true_eq, if_true]
  omega
def textOf (s : ByteArray) : ByteArray := ⟨(digits s.size ++ s.data.toList).toArray⟩
theorem nums_Text_at (s : ByteArray) (hs : s.size ≤ 1000000000000000) : nums_Text.f s = some (textOf s) := by
  unfold nums_Text.f
  rw [nums_Put_at _ (size_wf s hs) (by simp), putAll_one]
  simp only [Option.bind_some]
  have h9 := digits_le 8 ((s.size : Int).toNat) (by rw [p9]; omega)
  rw [if_pos (by rw [size_mk]; omega), show ((s.size : Int)).toNat = s.size from by omega]
  rw [show textOf s = ⟨(digits s.size).toArray⟩ ++ s from by unfold textOf; rw [← ba_append, ba_eta]]
theorem ref_Text_at (s : ByteArray) (hs : s.size ≤ 1000000000000000) : stevedoreref01_Text.f s = some (textOf s) := by
  unfold stevedoreref01_Text.f
  rw [ref_Put_at _ (size_wf s hs) (by simp), putAll_one]
  simp only [Option.bind_some]
  have h9 := digits_le 8 ((s.size : Int).toNat) (by rw [p9]; omega)
  rw [if_pos (by rw [size_mk]; omega), show ((s.size : Int)).toNat = s.size from by omega]
  rw [show textOf s = ⟨(digits s.size).toArray⟩ ++ s from by unfold textOf; rw [← ba_append, ba_eta]]
end Go.Proofs.Ytcdndnebmonlfaa.NumsPure
