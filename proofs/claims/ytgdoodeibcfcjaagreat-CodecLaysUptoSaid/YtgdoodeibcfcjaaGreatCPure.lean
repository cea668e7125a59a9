/- The codec, as functions of lists of bytes and of lists of cells: what a cell's bytes are, what is read of bytes; that what was written is read again, and what was read is written again. -/
import Derived.Test.YtgdoodeibcfcjaaGreatDOwn
set_option linter.unusedVariables false
set_option linter.unusedSimpArgs false
namespace Go.Proofs.YtgdoodeibcfcjaaGreat.CPure
open Go.RowKit Go.Proofs.YtgdoodeibcfcjaaGreat.NumsPure
open Go.Proofs.YtgdoodeibcfcjaaGreat.Put (digits digits_lt digits_ge)
/-! ### Numbers -/
theorem clamp_id {z : Int} (h0 : -4611686018427387904 ≤ z) (h1 : z ≤ 4611686018427387903) : clampN z = z := by unfold clampN; omega
theorem foldN_lt (z : Int) : foldN z < 9223372036854775808 := by have := clamp_bd z; unfold foldN; split <;> omega
theorem unfold_fold (z : Int) : unfoldN (foldN z) = clampN z := by
  have := clamp_bd z
  unfold unfoldN foldN
  split <;> split <;> omega
theorem unfold_bd {n : Nat} (h : n < 9223372036854775808) : -4611686018427387904 ≤ unfoldN n ∧ unfoldN n ≤ 4611686018427387903 := by unfold unfoldN; split <;> omega
theorem fold_unfold {n : Nat} (h : n < 9223372036854775808) : foldN (unfoldN n) = n := by
  have hb := unfold_bd h
  unfold foldN
  rw [clamp_id hb.1 hb.2]
  unfold unfoldN
  split <;> split <;> omega
theorem clamp_unfold {n : Nat} (h : n < 9223372036854775808) : clampN (unfoldN n) = unfoldN n := clamp_id (unfold_bd h).1 (unfold_bd h).2
/-! ### Cells -/
inductive K where
  | t
  | n
  | b
def zeroV : K → Value
  | .t => .string ⟨#[]⟩
  | .n => .int .i64 0
  | .b => .bool false
def IsK : K → Value → Prop
  | .t, v => ∃ s : ByteArray, v = .string s
  | .n, v => ∃ z : Int, v = .int .i64 z
  | .b, v => ∃ b : Bool, v = .bool b
def Fits : List K → List Value → Prop
  | [], vs => vs = []
  | k :: ks, vs => ∃ v r, vs = v :: r ∧ IsK k v ∧ Fits ks r
def clampV : Value → Value
  | .int .i64 z => .int .i64 (clampN z)
  | v => v
def encV : Value → List UInt8
  | .string s => textB s
  | .int _ z => digits (foldN z)
  | .bool b => [if b then 1 else 0]
  | _ => []
def encs (vs : List Value) : List UInt8 := vs.flatMap encV
def encRows (rows : List (List Value)) : List UInt8 := digits rows.length ++ rows.flatMap encs
theorem encs_append (a b : List Value) : encs (a ++ b) = encs a ++ encs b := by simp [encs]
theorem encs_cons (v : Value) (b : List Value) : encs (v :: b) = encV v ++ encs b := by simp [encs]
theorem encs_nil : encs [] = [] := rfl
theorem fits_len : ∀ {ks : List K} {vs : List Value}, Fits ks vs → vs.length = ks.length
  | [], vs, h => by rw [show vs = [] from h]; rfl
  | k :: ks, vs, h => by
    obtain ⟨v, r, rfl, _, hr⟩ := h
    simp [fits_len hr]
theorem fits_zero : ∀ ks : List K, Fits ks (ks.map zeroV)
  | [] => rfl
  | k :: ks => ⟨_, _, rfl, by cases k <;> exact ⟨_, rfl⟩, fits_zero ks⟩
theorem fits_append : ∀ {a b : List K} {va vb : List Value}, Fits a va → Fits b vb → Fits (a ++ b) (va ++ vb)
  | [], b, va, vb, h, h' => by rw [show va = [] from h]; exact h'
  | k :: a, b, va, vb, h, h' => by
    obtain ⟨v, r, rfl, hk, hr⟩ := h
    exact ⟨v, r ++ vb, rfl, hk, fits_append hr h'⟩
/-! ### Reading -/
structure Rd where
  D : List UInt8
  bad : Bool
def Rd.fail (s : Rd) : Rd := { s with bad := true }
def takeN (s : Rd) : Nat × Rd := if s.bad then (0, s) else match T true 9 s.D with
  | none => (0, s.fail)
  | some (n, r) => (n, ⟨r, false⟩)
def rdT (s : Rd) (v : Value) : Rd × Value := if s.bad then (s, v) else match T true 9 s.D with
  | none => (s.fail, v)
  | some (n, r) => if n ≤ r.length then (⟨r.drop n, false⟩, .string ⟨(r.take n).toArray⟩) else (s.fail, v)
def rdN (s : Rd) : Rd × Value := ((takeN s).2, .int .i64 (unfoldN (takeN s).1))
def rdB (s : Rd) (v : Value) : Rd × Value := if s.bad then (s, v) else match s.D with
  | [] => (s.fail, v)
  | c :: r => if c.toNat ≤ 1 then (⟨r, false⟩, .bool (c.toNat == 1)) else (s.fail, v)
def rd1 : K → Rd → Value → Rd × Value
  | .t, s, v => rdT s v
  | .n, s, _ => rdN s
  | .b, s, v => rdB s v
def rds : List K → Rd → List Value → Rd × List Value
  | k :: ks, s, v :: vs => ((rds ks (rd1 k s v).1 vs).1, (rd1 k s v).2 :: (rds ks (rd1 k s v).1 vs).2)
  | _, s, vs => (s, vs)
theorem rds_nil (s : Rd) (vs : List Value) : rds [] s vs = (s, vs) := by cases vs <;> rfl
theorem rds_append : ∀ (a b : List K) (s : Rd) (va vb : List Value), va.length = a.length → rds (a ++ b) s (va ++ vb) = ((rds b (rds a s va).1 vb).1, (rds a s va).2 ++ (rds b (rds a s va).1 vb).2)
  | [], b, s, va, vb, h => by
    have : va = [] := List.length_eq_zero_iff.1 h
    subst this
    simp [rds_nil]
  | k :: a, b, s, [], vb, h => by simp at h
  | k :: a, b, s, v :: va, vb, h => by
    simp only [List.cons_append, rds]
    rw [rds_append a b (rd1 k s v).1 va vb (by simpa using h)]
def rdRows (ks : List K) : Nat → Rd → Rd × List (List Value)
  | 0, s => (s, [])
  | n + 1, s => if s.bad then (s, []) else ((rdRows ks n (rds ks s (ks.map zeroV)).1).1, (rds ks s (ks.map zeroV)).2 :: (rdRows ks n (rds ks s (ks.map zeroV)).1).2)
/-- Behind the count. -/
def counted (s : Rd) : Nat × Rd := ((takeN s).1, if (takeN s).2.D.length < (takeN s).1 then (takeN s).2.fail else (takeN s).2)
def rdList (ks : List K) (s : Rd) : Rd × List (List Value) := rdRows ks (counted s).1 (counted s).2
/-! ### What is read fits -/
theorem isK_rd1 (k : K) (s : Rd) (v : Value) (h : IsK k v) : IsK k (rd1 k s v).2 := by
  cases k
  · show ∃ z, (rdT s v).2 = _
    unfold rdT
    split
    · exact h
    · split
      · exact h
      · split
        · exact ⟨_, rfl⟩
        · exact h
  · exact ⟨_, rfl⟩
  · show ∃ z, (rdB s v).2 = _
    unfold rdB
    split
    · exact h
    · split
      · exact h
      · split
        · exact ⟨_, rfl⟩
        · exact h
theorem fits_rds : ∀ (ks : List K) (s : Rd) (vs : List Value), Fits ks vs → Fits ks (rds ks s vs).2
  | [], s, vs, h => by rw [rds_nil]; exact h
  | k :: ks, s, vs, h => by
    obtain ⟨v, r, rfl, hk, hr⟩ := h
    exact ⟨_, _, rfl, isK_rd1 k s v hk, fits_rds ks _ r hr⟩
theorem fits_rows (ks : List K) : ∀ (n : Nat) (s : Rd), ∀ x ∈ (rdRows ks n s).2, Fits ks x
  | 0, s, x, h => by cases h
  | n + 1, s, x, h => by
    unfold rdRows at h
    split at h
    · cases h
    · rcases List.mem_cons.1 h with rfl | h
      · exact fits_rds ks s _ (fits_zero ks)
      · exact fits_rows ks n _ x h
theorem rows_len (ks : List K) : ∀ (n : Nat) (s : Rd), (rdRows ks n s).2.length ≤ n
  | 0, s => Nat.le_refl _
  | n + 1, s => by
    unfold rdRows
    split
    · simp
    · simp only [List.length_cons]
      have := rows_len ks n (rds ks s (ks.map zeroV)).1
      omega
/-! ### Bad stays bad -/
theorem rd1_bad (k : K) (s : Rd) (v : Value) (h : s.bad = true) : (rd1 k s v).1 = s := by
  cases k
  · show (rdT s v).1 = s
    unfold rdT; rw [if_pos h]
  · show (takeN s).2 = s
    unfold takeN; rw [if_pos h]
  · show (rdB s v).1 = s
    unfold rdB; rw [if_pos h]
theorem rds_bad : ∀ (ks : List K) (s : Rd) (vs : List Value), s.bad = true → (rds ks s vs).1 = s
  | [], s, vs, h => by rw [rds_nil]
  | k :: ks, s, [], h => rfl
  | k :: ks, s, v :: vs, h => by
    show (rds ks (rd1 k s v).1 vs).1 = s
    rw [rd1_bad k s v h]; exact rds_bad ks s vs h
theorem list_bad (ks : List K) (s : Rd) (h : s.bad = true) : rdList ks s = (s, []) := by
  have e : counted s = (0, s) := by unfold counted takeN; rw [if_pos h]; simp
  unfold rdList; rw [e]; rfl
/-! ### What was read is written again -/
theorem len9 : 128 ^ 9 = 9223372036854775808 := by decide
theorem rd1_there (k : K) (s : Rd) (v : Value) (h : (rd1 k s v).1.bad = false) : s.bad = false ∧ s.D = encV (rd1 k s v).2 ++ (rd1 k s v).1.D := by
  have hs : s.bad = false := by
    cases hb : s.bad with
    | false => rfl
    | true => rw [rd1_bad k s v hb, hb] at h; cases h
  refine ⟨hs, ?_⟩
  cases k
  · simp only [rd1, rdT, hs, Bool.false_eq_true, if_false] at h ⊢
    split at h
    · cases h
    · rename_i n r hT
      by_cases hn : n ≤ r.length
      · rw [if_pos hn]
        obtain ⟨e, _⟩ := digits_T 9 true _ _ _ hT
        simp only [encV, textB]
        rw [size_mk, List.length_take, Nat.min_eq_left hn]
        rw [List.append_assoc, e]
        simp [List.take_append_drop]
      · rw [if_neg hn] at h
        cases h
  · simp only [rd1, rdN, takeN, hs, Bool.false_eq_true, if_false] at h ⊢
    split at h
    · cases h
    · rename_i n r hT
      simp only [encV]
      have hlt := T_lt hT
      rw [len9] at hlt
      rw [fold_unfold hlt]
      exact (digits_T 9 true _ _ _ hT).1
  · simp only [rd1, rdB, hs, Bool.false_eq_true, if_false] at h ⊢
    split at h
    · cases h
    · rename_i c r hD
      rw [hD]
      by_cases hc : c.toNat ≤ 1
      · rw [if_pos hc]
        have hcc : c = if (c.toNat == 1) = true then 1 else 0 := by
          have : c.toNat = 0 ∨ c.toNat = 1 := by omega
          rcases this with e | e
          · rw [e]; exact UInt8.toNat_inj.1 (by rw [e]; rfl)
          · rw [e]; exact UInt8.toNat_inj.1 (by rw [e]; rfl)
        simp only [encV, List.cons_append, List.nil_append]
        rw [← hcc]
      · rw [if_neg hc] at h
        cases h
theorem rds_there : ∀ (ks : List K) (s : Rd) (vs : List Value), vs.length = ks.length → (rds ks s vs).1.bad = false → s.bad = false ∧ s.D = encs (rds ks s vs).2 ++ (rds ks s vs).1.D
  | [], s, vs, hl, h => by
    have : vs = [] := List.length_eq_zero_iff.1 hl
    subst this
    exact ⟨h, rfl⟩
  | k :: ks, s, [], hl, h => by simp at hl
  | k :: ks, s, v :: vs, hl, h => by
    obtain ⟨h1, h2⟩ := rds_there ks (rd1 k s v).1 vs (by simpa using hl) h
    obtain ⟨h3, h4⟩ := rd1_there k s v h1
    refine ⟨h3, ?_⟩
    show s.D = encs ((rd1 k s v).2 :: (rds ks (rd1 k s v).1 vs).2) ++ (rds ks (rd1 k s v).1 vs).1.D
    rw [encs_cons, List.append_assoc, ← h2]
    exact h4
theorem rows_there (ks : List K) : ∀ (n : Nat) (s : Rd), (rdRows ks n s).1.bad = false → s.bad = false ∧ (rdRows ks n s).2.length = n ∧ s.D = (rdRows ks n s).2.flatMap encs ++ (rdRows ks n s).1.D
  | 0, s, h => ⟨h, rfl, rfl⟩
  | n + 1, s, h => by
    unfold rdRows at h ⊢
    by_cases hb : s.bad = true
    · rw [if_pos hb] at h; rw [hb] at h; cases h
    · rw [if_neg hb] at h ⊢
      obtain ⟨h1, h2, h3⟩ := rows_there ks n _ h
      obtain ⟨h4, h5⟩ := rds_there ks s (ks.map zeroV) (by simp) h1
      refine ⟨h4, by simp [h2], ?_⟩
      simp only [List.flatMap_cons, List.append_assoc]
      rw [← h3]; exact h5
theorem take_there (s : Rd) (h : (takeN s).2.bad = false) : s.bad = false ∧ s.D = digits (takeN s).1 ++ (takeN s).2.D ∧ (takeN s).1 < 9223372036854775808 := by
  unfold takeN at h ⊢
  by_cases hb : s.bad = true
  · rw [if_pos hb] at h; rw [hb] at h; cases h
  · rw [if_neg hb] at h ⊢
    split at h
    · cases h
    · rename_i n r hT
      have hlt := T_lt hT
      rw [len9] at hlt
      exact ⟨by simpa using hb, (digits_T 9 true _ _ _ hT).1, hlt⟩
theorem list_there (ks : List K) (s : Rd) (h : (rdList ks s).1.bad = false) : s.bad = false ∧ s.D = encRows (rdList ks s).2 ++ (rdList ks s).1.D := by
  unfold rdList at h ⊢
  obtain ⟨h1, h2, h3⟩ := rows_there ks _ _ h
  have hc : (counted s).2 = (takeN s).2 := by
    unfold counted at h1 ⊢
    split at h1
    · cases h1
    · rename_i hh; simp only [hh, if_false]
  rw [hc] at h1 h3
  obtain ⟨h4, h5, h6⟩ := take_there s h1
  refine ⟨h4, ?_⟩
  unfold encRows
  rw [h2, List.append_assoc, hc, ← h3]
  exact h5
/-! ### What was written is read again -/
def Short : Value → Prop
  | .string s => s.size < 9223372036854775808
  | _ => True
theorem T9 (n : Nat) (h : n < 9223372036854775808) (rest : List UInt8) : T true 9 (digits n ++ rest) = some (n, rest) := T_digits 8 true n rest (by rw [len9]; exact h) (.inl rfl)
theorem rd1_back (k : K) (v v0 : Value) (rest : List UInt8) (hk : IsK k v) (hs : Short v) : rd1 k ⟨encV v ++ rest, false⟩ v0 = (⟨rest, false⟩, clampV v) := by
  cases k
  · obtain ⟨s, rfl⟩ := hk
    show rdT ⟨textB s ++ rest, false⟩ v0 = _
    unfold rdT textB
    rw [List.append_assoc]
    simp only [Bool.false_eq_true, if_false]
    rw [T9 s.size hs]
    have hl : s.data.toList.length = s.size := by simp
    simp only
    rw [if_pos (by rw [List.length_append, hl]; omega), List.take_append_of_le_length (by omega), List.drop_append_of_le_length (by omega)]
    rw [List.take_of_length_le (by omega), List.drop_of_length_le (by omega)]
    rfl
  · obtain ⟨z, rfl⟩ := hk
    show rdN ⟨digits (foldN z) ++ rest, false⟩ = _
    unfold rdN takeN
    simp only [Bool.false_eq_true, if_false]
    rw [T9 _ (foldN_lt z)]
    simp only [unfold_fold]
    rfl
  · obtain ⟨b, rfl⟩ := hk
    show rdB ⟨(if b then 1 else 0) :: rest, false⟩ v0 = _
    cases b <;> rfl
theorem rds_back : ∀ (ks : List K) (vs v0 : List Value) (rest : List UInt8), Fits ks vs → v0.length = ks.length → (∀ v ∈ vs, Short v) → rds ks ⟨encs vs ++ rest, false⟩ v0 = (⟨rest, false⟩, vs.map clampV)
  | [], vs, v0, rest, h, hl, hs => by
    rw [show vs = [] from h, List.length_eq_zero_iff.1 hl]; rfl
  | k :: ks, vs, [], rest, h, hl, hs => by simp at hl
  | k :: ks, vs, v1 :: v0, rest, h, hl, hs => by
    obtain ⟨v, r, rfl, hk, hr⟩ := h
    have e := rd1_back k v v1 (encs r ++ rest) hk (hs v (by simp))
    simp only [rds, encs_cons, List.append_assoc]
    rw [e, rds_back ks r v0 rest hr (by simpa using hl) fun x hx => hs x (by simp [hx])]
    rfl
theorem encV_pos (k : K) (v : Value) (h : IsK k v) : 1 ≤ (encV v).length := by
  cases k
  · obtain ⟨s, rfl⟩ := h
    have := Put.digits_len s.size
    simp only [encV, textB, List.length_append]; omega
  · obtain ⟨z, rfl⟩ := h
    exact Put.digits_len _
  · obtain ⟨b, rfl⟩ := h
    simp [encV]
theorem encs_pos (ks : List K) (vs : List Value) (h : Fits ks vs) (hk : ks ≠ []) : 1 ≤ (encs vs).length := by
  cases ks with
  | nil => exact absurd rfl hk
  | cons k ks =>
    obtain ⟨v, r, rfl, h1, _⟩ := h
    have := encV_pos k v h1
    rw [encs_cons, List.length_append]; omega
theorem rows_back (ks : List K) : ∀ (rows : List (List Value)) (rest : List UInt8), (∀ x ∈ rows, Fits ks x) → (∀ x ∈ rows, ∀ v ∈ x, Short v) → rdRows ks rows.length ⟨rows.flatMap encs ++ rest, false⟩ = (⟨rest, false⟩, rows.map (·.map clampV))
  | [], rest, h, hs => rfl
  | x :: rows, rest, h, hs => by
    have e := rds_back ks x (ks.map zeroV) (rows.flatMap encs ++ rest) (h x (by simp)) (by simp) (hs x (by simp))
    simp only [List.length_cons, rdRows, List.flatMap_cons, List.append_assoc, Bool.false_eq_true, if_false]
    rw [e, rows_back ks rows rest (fun y hy => h y (by simp [hy])) fun y hy => hs y (by simp [hy])]
    rfl
theorem rows_ge (ks : List K) (hk : ks ≠ []) : ∀ rows : List (List Value), (∀ x ∈ rows, Fits ks x) → rows.length ≤ (rows.flatMap encs).length
  | [], h => Nat.le_refl _
  | x :: rows, h => by
    have := encs_pos ks x (h x (by simp)) hk
    have := rows_ge ks hk rows fun y hy => h y (by simp [hy])
    simp only [List.flatMap_cons, List.length_append, List.length_cons]; omega
theorem list_back (ks : List K) (hk : ks ≠ []) (rows : List (List Value)) (rest : List UInt8) (h : ∀ x ∈ rows, Fits ks x) (hs : ∀ x ∈ rows, ∀ v ∈ x, Short v) (hl : rows.length < 9223372036854775808) : rdList ks ⟨encRows rows ++ rest, false⟩ = (⟨rest, false⟩, rows.map (·.map clampV)) := by
  have e : takeN ⟨encRows rows ++ rest, false⟩ = (rows.length, ⟨rows.flatMap encs ++ rest, false⟩) := by
    unfold takeN encRows
    rw [List.append_assoc]
    simp only [Bool.false_eq_true, if_false]
    rw [T9 _ hl]
  have e2 : counted ⟨encRows rows ++ rest, false⟩ = (rows.length, ⟨rows.flatMap encs ++ rest, false⟩) := by
    unfold counted
    rw [e]
    have := rows_ge ks hk rows h
    simp only
    rw [if_neg (by rw [List.length_append]; omega)]
  unfold rdList
  rw [e2]
  exact rows_back ks rows rest h hs
/-! ### Step by step, at places -/
def undefV : Value := .tuple #[]
abbrev Sc := List (K × Nat)
def rd1At (x : K × Nat) (p : Rd × List Value) : Rd × List Value := ((rd1 x.1 p.1 (p.2.getD x.2 undefV)).1, p.2.set x.2 (rd1 x.1 p.1 (p.2.getD x.2 undefV)).2)
def rdAt (l : Sc) (p : Rd × List Value) : Rd × List Value := l.foldl (fun p x => rd1At x p) p
def encAt (l : Sc) (vs : List Value) : List UInt8 := l.flatMap fun x => encV (vs.getD x.2 undefV)
def OkAt (l : Sc) (vs : List Value) : Prop := ∀ x ∈ l, ∃ v, vs[x.2]? = some v ∧ IsK x.1 v
def at_ (k : K) (js : List Nat) : Sc := js.map fun j => (k, j)
theorem rdAt_append (a b : Sc) (p : Rd × List Value) : rdAt (a ++ b) p = rdAt b (rdAt a p) := by simp [rdAt]
theorem rdAt_nil (p : Rd × List Value) : rdAt [] p = p := rfl
theorem rdAt_cons (x : K × Nat) (b : Sc) (p : Rd × List Value) : rdAt (x :: b) p = rdAt b (rd1At x p) := rfl
theorem encAt_append (a b : Sc) (vs : List Value) : encAt (a ++ b) vs = encAt a vs ++ encAt b vs := by simp [encAt]
theorem at_take (k : K) (js : List Nat) (i : Nat) (j : Nat) (h : js[i]? = some j) : at_ k (js.take (i + 1)) = at_ k (js.take i) ++ [(k, j)] := by
  unfold at_
  rw [List.take_add_one, h]
  simp
theorem T_len {first : Bool} {f : Nat} {l r : List UInt8} {n : Nat} (h : T first f l = some (n, r)) : r.length ≤ l.length := by
  have := (digits_T f first l r n h).1
  rw [this, List.length_append]; omega
theorem take_len (s : Rd) : (takeN s).2.D.length ≤ s.D.length := by
  unfold takeN
  split
  · exact Nat.le_refl _
  · split
    · exact Nat.le_refl _
    · rename_i n r h; exact T_len h
theorem take_lt (s : Rd) : (takeN s).1 < 9223372036854775808 := by
  unfold takeN
  split
  · exact (by decide : (0 : Nat) < 9223372036854775808)
  · split
    · exact (by decide : (0 : Nat) < 9223372036854775808)
    · rename_i n r h
      have := T_lt h
      rw [len9] at this; exact this
theorem rd1_len (k : K) (s : Rd) (v : Value) : (rd1 k s v).1.D.length ≤ s.D.length := by
  cases k
  · show (rdT s v).1.D.length ≤ _
    unfold rdT
    split
    · exact Nat.le_refl _
    · split
      · exact Nat.le_refl _
      · rename_i n r h
        have := T_len h
        split
        · show (r.drop n).length ≤ _
          rw [List.length_drop]; omega
        · exact Nat.le_refl _
  · exact take_len s
  · show (rdB s v).1.D.length ≤ _
    unfold rdB
    split
    · exact Nat.le_refl _
    · split
      · exact Nat.le_refl _
      · rename_i c r h
        split
        · rw [h]; simp
        · exact Nat.le_refl _
theorem rdAt_len : ∀ (l : Sc) (p : Rd × List Value), (rdAt l p).1.D.length ≤ p.1.D.length ∧ (rdAt l p).2.length = p.2.length
  | [], p => ⟨Nat.le_refl _, rfl⟩
  | x :: l, p => by
    obtain ⟨h1, h2⟩ := rdAt_len l (rd1At x p)
    refine ⟨Nat.le_trans h1 (rd1_len _ _ _), h2.trans ?_⟩
    simp [rd1At]
/-- All places, in order. -/
def scOf : Nat → List K → Sc
  | _, [] => []
  | o, k :: ks => (k, o) :: scOf (o + 1) ks
theorem rd_sc : ∀ (ks : List K) (o : Nat) (s : Rd) (pre vs : List Value), pre.length = o → vs.length = ks.length → rdAt (scOf o ks) (s, pre ++ vs) = ((rds ks s vs).1, pre ++ (rds ks s vs).2)
  | [], o, s, pre, vs, hp, hv => by
    rw [List.length_eq_zero_iff.1 hv]; rfl
  | k :: ks, o, s, pre, [], hp, hv => by simp at hv
  | k :: ks, o, s, pre, v :: vs, hp, hv => by
    have e : rd1At (k, o) (s, pre ++ v :: vs) = ((rd1 k s v).1, (pre ++ [(rd1 k s v).2]) ++ vs) := by
      unfold rd1At
      have hg : (pre ++ v :: vs).getD o undefV = v := by
        rw [List.getD_eq_getElem?_getD, List.getElem?_append_right (by omega), hp, Nat.sub_self]; rfl
      simp only [hg]
      rw [List.set_append_right _ _ (by omega), hp, Nat.sub_self]
      simp
    show rdAt (scOf (o + 1) ks) (rd1At (k, o) (s, pre ++ v :: vs)) = _
    rw [e, rd_sc ks (o + 1) _ _ vs (by simp [hp]) (by simpa using hv)]
    simp [rds]
theorem rd_all (ks : List K) (s : Rd) (vs : List Value) (h : vs.length = ks.length) : rdAt (scOf 0 ks) (s, vs) = rds ks s vs := by
  have := rd_sc ks 0 s [] vs rfl h
  simpa using this
theorem enc_sc : ∀ (ks : List K) (o : Nat) (pre vs : List Value), pre.length = o → vs.length = ks.length → encAt (scOf o ks) (pre ++ vs) = encs vs
  | [], o, pre, vs, hp, hv => by rw [List.length_eq_zero_iff.1 hv]; rfl
  | k :: ks, o, pre, [], hp, hv => by simp at hv
  | k :: ks, o, pre, v :: vs, hp, hv => by
    have hg : (pre ++ v :: vs).getD o undefV = v := by
      rw [List.getD_eq_getElem?_getD, List.getElem?_append_right (by omega), hp, Nat.sub_self]; rfl
    have := enc_sc ks (o + 1) (pre ++ [v]) vs (by simp [hp]) (by simpa using hv)
    rw [List.append_assoc] at this
    show encV ((pre ++ v :: vs).getD o undefV) ++ encAt (scOf (o + 1) ks) (pre ++ v :: vs) = _
    rw [hg, encs_cons]
    congr 1
theorem enc_all (ks : List K) (vs : List Value) (h : vs.length = ks.length) : encAt (scOf 0 ks) vs = encs vs := by
  have := enc_sc ks 0 [] vs rfl h
  simpa using this
theorem ok_sc : ∀ (ks : List K) (o : Nat) (pre vs : List Value), pre.length = o → Fits ks vs → OkAt (scOf o ks) (pre ++ vs)
  | [], o, pre, vs, hp, h => fun x hx => by cases hx
  | k :: ks, o, pre, vs, hp, h => by
    obtain ⟨v, r, rfl, hk, hr⟩ := h
    intro x hx
    rcases List.mem_cons.1 hx with rfl | hx
    · exact ⟨v, by rw [List.getElem?_append_right (by simp [hp]), hp, Nat.sub_self]; rfl, hk⟩
    · have := ok_sc ks (o + 1) (pre ++ [v]) r (by simp [hp]) hr x hx
      rw [List.append_assoc] at this
      exact this
theorem ok_all (ks : List K) (vs : List Value) (h : Fits ks vs) : OkAt (scOf 0 ks) vs := by
  have := ok_sc ks 0 [] vs rfl h
  simpa using this
theorem OkAt.left {a b : Sc} {vs : List Value} (h : OkAt (a ++ b) vs) : OkAt a vs := fun x hx => h x (List.mem_append_left _ hx)
theorem OkAt.right {a b : Sc} {vs : List Value} (h : OkAt (a ++ b) vs) : OkAt b vs := fun x hx => h x (List.mem_append_right _ hx)
def rep (n : Nat) (f : Nat → Sc) : Sc := (List.range n).flatMap f
theorem rep_succ (i : Nat) (f : Nat → Sc) : rep (i + 1) f = rep i f ++ f i := by simp [rep, List.range_succ]
theorem rep_split (n : Nat) (f : Nat → Sc) (i : Nat) (h : i < n) : ∃ rest, rep n f = rep i f ++ (f i ++ rest) := by
  refine ⟨((List.range (n - (i + 1))).map (i + 1 + ·)).flatMap f, ?_⟩
  rw [← List.append_assoc, ← rep_succ]
  unfold rep
  rw [← List.flatMap_append, ← List.range_add, show i + 1 + (n - (i + 1)) = n from by omega]
theorem rows_more (ks : List K) (n : Nat) (s : Rd) (h : s.bad = false) : rdRows ks (n + 1) s = ((rdRows ks n (rds ks s (ks.map zeroV)).1).1, (rds ks s (ks.map zeroV)).2 :: (rdRows ks n (rds ks s (ks.map zeroV)).1).2) := by
  show (if s.bad = true then _ else _) = _
  rw [if_neg (by rw [h]; simp)]
theorem rows_done (ks : List K) (n : Nat) (s : Rd) (h : s.bad = true) : rdRows ks n s = (s, []) := by
  cases n with
  | zero => rfl
  | succ n =>
    show (if s.bad = true then _ else _) = _
    rw [if_pos h]
end Go.Proofs.YtgdoodeibcfcjaaGreat.CPure
