/- What frames.Lay and frames.Tell answer, as functions of lists of bytes. -/
import Derived.Test.YtdjcaogffppdhaaBase2x
import Derived.Test.YtdjcaogffppdhaaSect
set_option linter.unusedVariables false
set_option linter.unusedSimpArgs false
namespace Go.Proofs.Ytdjcaogffppdhaa.FramesPure
open Go.RowKit Go.Proofs.Ytdjcaogffppdhaa.SumPure Go.Proofs.Ytdjcaogffppdhaa.Arr Go.Proofs.Ytdjcaogffppdhaa.Sect Go.Proofs.YtdjcaogffppdhaaW.PrintWords Go.Proofs.YtdjcaogffppdhaaW.PrintLast Go.Proofs.YtdjcaogffppdhaaW.PrintMore

def cnt (n : Nat) : Nat := max 1 ((n + 54) / 55)
def chunk (D : List UInt8) (i : Nat) : List UInt8 := (D.drop (55 * i)).take 55
/-- Part i of q of what D holds, as a sector. -/
def secAt (n : Int) (D : List UInt8) (q i : Nat) : ByteArray := ⟨(sect n i q (chunk D i)).toArray⟩
def secs (n : Int) (D : List UInt8) : List ByteArray := (List.range (cnt D.length)).map (secAt n D (cnt D.length))
def okLay (n : Int) (D : List UInt8) : Prop := 1 ≤ n ∧ n ≤ 2147483647 ∧ D.length ≤ 440
instance (n : Int) (D : List UInt8) : Decidable (okLay n D) := by unfold okLay; infer_instance
def layP (n : Int) (D : List UInt8) : List ByteArray × Int := if okLay n D then (secs n D, 0) else ([], 43)

theorem cnt_mx (s : Nat) (hs : s ≤ 1000000000000000) : mx 1 (wrap64 (Int.tdiv (wrap64 ((wrap64 ((s : Int) + 55)) - 1)) 55)) = (cnt s : Int) := by
  rw [wrap_id (x := (s : Int) + 55) (by omega) (by omega), wrap_id (x := (s : Int) + 55 - 1) (by omega) (by omega), Int.tdiv_eq_ediv_of_nonneg (by omega), wrap_id (by omega) (by omega)]
  unfold mx cnt
  split <;> omega

theorem Lay_l0 (n : Int) (D : List UInt8) (q : Nat) (hq : q ≤ 1000) (d : Nat) : ∀ (k i : Nat), i + d = q → d < k →
    frames_Lay.l0 k n ⟨(D.drop (55 * i)).toArray⟩ q ((List.range i).map (secAt n D q)) q i = some ((List.range q).map (secAt n D q), 0) := by
  induction d with
  | zero =>
    intro k i hi hk
    obtain ⟨k, rfl⟩ : ∃ m, k = m + 1 := ⟨k - 1, by omega⟩
    simp only [frames_Lay.l0]
    rw [if_neg (by omega), show i = q from by omega]
  | succ d ih =>
    intro k i hi hk
    obtain ⟨k, rfl⟩ : ∃ m, k = m + 1 := ⟨k - 1, by omega⟩
    simp only [frames_Lay.l0]
    have hsz : ByteArray.size ⟨(D.drop (55 * i)).toArray⟩ = (D.drop (55 * i)).length := size_mk _
    have hm : mn ((ByteArray.size ⟨(D.drop (55 * i)).toArray⟩ : Nat) : Int) 55 = ((min (D.drop (55 * i)).length 55 : Nat) : Int) := by
      rw [hsz]; unfold mn; split <;> omega
    rw [hm, if_pos (by omega), if_pos (by omega), if_pos (by rw [hsz]; omega)]
    have e1 : ByteArray.extract ⟨(D.drop (55 * i)).toArray⟩ 0 ((min (D.drop (55 * i)).length 55 : Nat) : Int).toNat = ⟨(chunk D i).toArray⟩ := by
      rw [extract_mid]
      congr 2
      simp only [List.drop_zero, Nat.sub_zero, Int.toNat_natCast, chunk]
      rcases Nat.le_total (D.drop (55 * i)).length 55 with h | h
      · rw [Nat.min_eq_left h, List.take_of_length_le (Nat.le_refl _), List.take_of_length_le h]
      · rw [Nat.min_eq_right h]
    have e2 : ByteArray.extract ⟨(D.drop (55 * i)).toArray⟩ ((min (D.drop (55 * i)).length 55 : Nat) : Int).toNat (ByteArray.size ⟨(D.drop (55 * i)).toArray⟩) = ⟨(D.drop (55 * (i + 1))).toArray⟩ := by
      rw [extract_drop _ _ (by rw [hsz, Int.toNat_natCast]; omega)]
      congr 2
      simp only [Int.toNat_natCast]
      rcases Nat.le_total (D.drop (55 * i)).length 55 with h | h
      · rw [Nat.min_eq_left h, List.drop_eq_nil_of_le (Nat.le_refl _), List.drop_eq_nil_of_le]
        rw [List.length_drop] at h; omega
      · rw [Nat.min_eq_right h, List.drop_drop]; rfl
    rw [e1, e2]
    have hc : (chunk D i).length ≤ 55 := by simp [chunk]; omega
    have e3 : frames_Part_sector.f n (i : Int) (q : Int) ⟨(chunk D i).toArray⟩ = some (secAt n D q i) := by
      unfold frames_Part_sector.f
      rw [if_pos (by rw [size_mk]; exact hc)]
      simp [secAt]
    rw [e3, Option.bind_some, if_pos (by simp; omega), wrap_id (x := (i : Int) + 1) (by omega) (by omega)]
    have := ih k (i + 1) (by omega) (by omega)
    rw [List.range_succ, List.map_append] at this
    exact this

theorem cnt_le (s : Nat) : cnt s ≤ 8 ↔ s ≤ 440 := by unfold cnt; omega
theorem Lay_at (n : Int) (a : ByteArray) (ha : a.size ≤ 1000000000000000) {k : Nat} (hk : 20 ≤ k) : frames_Lay.f k n a = some (layP n a.data.toList) := by
  obtain ⟨k, rfl⟩ : ∃ m, k = m + 1 := ⟨k - 1, by omega⟩
  unfold frames_Lay.f
  rw [cnt_mx a.size ha]
  simp only [frames_Lay.j0, layP]
  by_cases h1 : n < 1
  · rw [if_pos h1, if_pos trivial, if_neg (by unfold okLay; omega)]
  by_cases h2 : n > 2147483647
  · rw [if_neg h1, if_pos h2, if_pos trivial, if_neg (by unfold okLay; omega)]
  rw [if_neg h1, if_neg h2]
  have hl := size_len a
  by_cases h3 : (cnt a.size : Int) > 8
  · have h4 := cnt_le a.size
    rw [if_pos (by rw [decide_eq_true_eq]; exact h3), if_neg (by unfold okLay; rw [hl]; omega)]
  · have h4 := cnt_le a.size
    rw [if_neg (by rw [decide_eq_true_eq]; exact h3), if_pos (by unfold okLay; rw [hl]; omega)]
    have := Lay_l0 n a.data.toList (cnt a.size) (by omega) (cnt a.size) k 0 (by omega) (by omega)
    rw [Nat.mul_zero, List.drop_zero, ba_eta] at this
    unfold secs
    rw [hl]
    exact this

/-! ### Telling a sector -/
def okPart (n p q : Int) (m : Nat) : Prop := 1 ≤ n ∧ n ≤ 2147483647 ∧ 1 ≤ q ∧ q ≤ 8 ∧ 0 ≤ p ∧ p < q ∧ m ≤ 55 ∧ (p < q - 1 → m = 55) ∧ (p = q - 1 → m ≠ 0 ∨ q = 1)
instance (n p q : Int) (m : Nat) : Decidable (okPart n p q m) := by unfold okPart; infer_instance
def num4 (a b c d : UInt8) : Int := (a.toNat : Int) * 16777216 + b.toNat * 65536 + c.toNat * 256 + d.toNat
def tellP : List UInt8 → Option (Int × Int × Int × List UInt8)
  | a0 :: a1 :: a2 :: a3 :: a4 :: a5 :: a6 :: r =>
    if r.length = 57 ∧ okPart (num4 a0 a1 a2 a3) a4.toNat a5.toNat a6.toNat ∧ sect (num4 a0 a1 a2 a3) a4.toNat a5.toNat (r.take a6.toNat) = a0 :: a1 :: a2 :: a3 :: a4 :: a5 :: a6 :: r then
      some (num4 a0 a1 a2 a3, a4.toNat, a5.toNat, r.take a6.toNat)
    else none
  | _ => none
theorem tellP_eq (a0 a1 a2 a3 a4 a5 a6 : UInt8) (r : List UInt8) : tellP (a0 :: a1 :: a2 :: a3 :: a4 :: a5 :: a6 :: r) =
    if r.length = 57 ∧ okPart (num4 a0 a1 a2 a3) a4.toNat a5.toNat a6.toNat ∧ sect (num4 a0 a1 a2 a3) a4.toNat a5.toNat (r.take a6.toNat) = a0 :: a1 :: a2 :: a3 :: a4 :: a5 :: a6 :: r then
      some (num4 a0 a1 a2 a3, (a4.toNat : Int), (a5.toNat : Int), r.take a6.toNat)
    else none := rfl
theorem tellP_long {l : List UInt8} (h : l.length ≠ 64) : tellP l = none := by
  unfold tellP
  split
  · rename_i a0 a1 a2 a3 a4 a5 a6 r
    rw [if_neg (by rintro ⟨h', _⟩; apply h; simp [h'])]
  · rfl
def tellT : Option (Int × Int × Int × List UInt8) → Int × Int × Int × ByteArray × Int
  | none => (0, 0, 0, ⟨#[]⟩, 43)
  | some (n, p, q, d) => (n, p, q, ⟨d.toArray⟩, 0)
theorem b8_lt (x : Int) : ((b8 x).toNat : Int) < 256 ∧ 0 ≤ ((b8 x).toNat : Int) := by rw [b8_int]; omega
theorem b8_self (c : UInt8) : b8 (c.toNat : Int) = c := by
  apply UInt8.toNat_inj.1
  have := b8_int (c.toNat : Int)
  have h := c.toNat_lt
  omega
/-- What a sector says, and only that. -/
theorem tell_sect (n p q : Int) (d : List UInt8) (h : okPart n p q d.length) : tellP (sect n p q d) = some (n, p, q, d) := by
  have h' := h
  obtain ⟨h1, h2, h3, h4, h5, h6, h7, h8, h9⟩ := h
  have hn : num4 (b8 (n / 16777216)) (b8 (n / 65536)) (b8 (n / 256)) (b8 n) = n := by
    unfold num4; rw [b8_int, b8_int, b8_int, b8_int]; omega
  have hp : ((b8 p).toNat : Int) = p := by rw [b8_int]; omega
  have hq : ((b8 q).toNat : Int) = q := by rw [b8_int]; omega
  have hd : (b8 d.length).toNat = d.length := by have := b8_int d.length; omega
  have hs : sect n p q d = b8 (n / 16777216) :: b8 (n / 65536) :: b8 (n / 256) :: b8 n :: b8 p :: b8 q :: b8 d.length :: (d ++ List.replicate (55 - d.length) 0 ++ [b8 (sumL 1 (body n p q d) / 256), b8 (sumL 1 (body n p q d))]) := by
    simp [sect, body, head]
  have ht : (d ++ List.replicate (55 - d.length) 0 ++ [b8 (sumL 1 (body n p q d) / 256), b8 (sumL 1 (body n p q d))]).take d.length = d := by
    rw [List.append_assoc, List.take_left']
    rfl
  rw [hs]
  unfold tellP
  simp only [hn, hp, hq, hd, ht]
  rw [if_pos ⟨by simp; omega, h', hs⟩]
theorem tellP_some {l : List UInt8} {n p q : Int} {d : List UInt8} (h : tellP l = some (n, p, q, d)) : okPart n p q d.length ∧ sect n p q d = l := by
  unfold tellP at h
  split at h
  · rename_i a0 a1 a2 a3 a4 a5 a6 r
    split at h
    · rename_i hc
      obtain ⟨rfl, rfl, rfl, rfl⟩ := by simpa using h
      obtain ⟨c1, c2, c3⟩ := hc
      refine ⟨?_, c3⟩
      rw [List.length_take]
      have := c2.2.2.2.2.2.2.1
      rw [Nat.min_eq_left (by omega)]
      exact c2
    · simp at h
  · simp at h
theorem tell_iff {l : List UInt8} {n p q : Int} {d : List UInt8} : tellP l = some (n, p, q, d) ↔ okPart n p q d.length ∧ sect n p q d = l :=
  ⟨tellP_some, fun h => by rw [← h.2]; exact tell_sect n p q d h.1⟩

theorem right_at (n p q : Int) (d : ByteArray) (hq0 : 0 ≤ q) (hq1 : q ≤ 255) {k : Nat} (hk : 1 ≤ k) : frames_Part_right.f k n p q d = some (decide (okPart n p q d.size)) := by
  obtain ⟨k, rfl⟩ : ∃ m, k = m + 1 := ⟨k - 1, by omega⟩
  have hl := size_len d
  have hz : d.toList = ([] : List UInt8) ↔ d.size = 0 := by rw [toList_nil, ← hl, List.length_eq_zero_iff]
  unfold frames_Part_right.f
  simp only [frames_Part_right.j0]
  rw [wrap_id (x := q - 1) (by omega) (by omega)]
  by_cases c1 : n < 1
  · rw [if_pos c1, if_pos trivial, decide_eq_false (by unfold okPart; omega)]
  by_cases c2 : n > 2147483647
  · rw [if_neg c1, if_pos c2, if_pos trivial, decide_eq_false (by unfold okPart; omega)]
  by_cases c3 : q < 1
  · rw [if_neg c1, if_neg c2, if_pos c3, if_pos trivial, decide_eq_false (by unfold okPart; omega)]
  by_cases c4 : q > 8
  · rw [if_neg c1, if_neg c2, if_neg c3, if_pos c4, if_pos trivial, decide_eq_false (by unfold okPart; omega)]
  by_cases c5 : p < 0
  · rw [if_neg c1, if_neg c2, if_neg c3, if_neg c4, if_pos c5, if_pos trivial, decide_eq_false (by unfold okPart; omega)]
  rw [if_neg c1, if_neg c2, if_neg c3, if_neg c4, if_neg c5]
  by_cases c6 : p ≥ q
  · rw [if_pos (decide_eq_true c6), decide_eq_false (by unfold okPart; omega)]
  rw [if_neg (by simpa using c6)]
  by_cases c7 : p < q - 1
  · rw [if_pos c7]
    congr 1
    rw [Bool.eq_iff_iff, beq_iff_eq, decide_eq_true_eq]
    unfold okPart
    constructor
    · intro h; omega
    · intro h; omega
  rw [if_neg c7]
  by_cases c8 : (d.size : Int) ≤ 55
  · rw [if_pos c8]
    by_cases c9 : d.toList = ([] : List UInt8)
    · rw [if_pos c9]
      have := hz.1 c9
      congr 1
      rw [Bool.eq_iff_iff, beq_iff_eq, decide_eq_true_eq]
      unfold okPart
      constructor
      · intro h; omega
      · intro h; omega
    · rw [if_neg c9, decide_eq_true]
      have : d.size ≠ 0 := fun h => c9 (hz.2 h)
      unfold okPart
      omega
  · rw [if_neg c8, decide_eq_false (by unfold okPart; omega)]

theorem or256 (x : Int) (c : UInt8) (h0 : 0 ≤ x) (h1 : x < 36028797018963968) : bits .or .i64 (wrap64 (x * 256)) (wrap64 (c.toNat : Int)) = x * 256 + c.toNat := by
  have hc := c.toNat_lt
  rw [wrap_id (x := x * 256) (by omega) (by omega), wrap_id (x := (c.toNat : Int)) (by omega) (by omega)]
  obtain ⟨y, rfl⟩ : ∃ y : Nat, x = y := ⟨x.toNat, by omega⟩
  have hor : y * 256 ||| c.toNat = y * 256 + c.toNat := nat_join 8 _ _ (by omega) (by omega)
  rw [show ((y : Int) * 256) = ((y * 256 : Nat) : Int) from by omega]
  show IntKind.i64.wrap ((BitVec.ofInt 64 ((y * 256 : Nat) : Int) ||| BitVec.ofInt 64 (c.toNat : Int)).toNat : Int) = _
  rw [BitVec.toNat_or, BitVec.ofInt_natCast, BitVec.ofInt_natCast, BitVec.toNat_ofNat, BitVec.toNat_ofNat, Nat.mod_eq_of_lt (by omega), Nat.mod_eq_of_lt (by omega), hor, IntKind.wrap_i64]
  omega
theorem bt_lit (l : List UInt8) (i : Nat) (c : UInt8) (h : l[i]? = some c) : bt (⟨l.toArray⟩ : ByteArray) (i : Int) = (c.toNat : Int) := by
  obtain ⟨hi, hc⟩ := List.getElem?_eq_some_iff.1 h
  unfold bt
  rw [dif_pos (by rw [size_mk]; omega)]
  congr 2
theorem Tell_at (s : ByteArray) {k : Nat} (hk : 20 ≤ k) : frames_Tell.f k s = some (tellT (tellP s.data.toList)) := by
  obtain ⟨⟨l⟩⟩ := s
  obtain ⟨k, rfl⟩ : ∃ m, k = m + 6 := ⟨k - 6, by omega⟩
  have hsz : ByteArray.size ⟨⟨l⟩⟩ = l.length := rfl
  unfold frames_Tell.f
  rw [hsz]
  rcases Decidable.em (l.length ≠ 64) with h64 | h64
  · rw [if_neg (by omega)]
    show _ = some (tellT (tellP l))
    unfold tellP
    split
    · rename_i a0 a1 a2 a3 a4 a5 a6 r
      rw [if_neg (by rintro ⟨h, _⟩; apply h64; simp [h])]; rfl
    · rfl
  have h64 : l.length = 64 := Decidable.not_not.1 h64
  obtain ⟨a0, a1, a2, a3, a4, a5, a6, r, rfl⟩ : ∃ a0 a1 a2 a3 a4 a5 a6 r, l = a0 :: a1 :: a2 :: a3 :: a4 :: a5 :: a6 :: r := by
    match l, h64 with
    | a0 :: a1 :: a2 :: a3 :: a4 :: a5 :: a6 :: r, _ => exact ⟨a0, a1, a2, a3, a4, a5, a6, r, rfl⟩
  have hr : r.length = 57 := by simpa using h64
  have b0 : bt (⟨⟨a0 :: a1 :: a2 :: a3 :: a4 :: a5 :: a6 :: r⟩⟩ : ByteArray) 0 = (a0.toNat : Int) := bt_lit _ 0 a0 rfl
  have b1 : bt (⟨⟨a0 :: a1 :: a2 :: a3 :: a4 :: a5 :: a6 :: r⟩⟩ : ByteArray) 1 = (a1.toNat : Int) := bt_lit _ 1 a1 rfl
  have b2 : bt (⟨⟨a0 :: a1 :: a2 :: a3 :: a4 :: a5 :: a6 :: r⟩⟩ : ByteArray) 2 = (a2.toNat : Int) := bt_lit _ 2 a2 rfl
  have b3 : bt (⟨⟨a0 :: a1 :: a2 :: a3 :: a4 :: a5 :: a6 :: r⟩⟩ : ByteArray) 3 = (a3.toNat : Int) := bt_lit _ 3 a3 rfl
  have b4 : bt (⟨⟨a0 :: a1 :: a2 :: a3 :: a4 :: a5 :: a6 :: r⟩⟩ : ByteArray) 4 = (a4.toNat : Int) := bt_lit _ 4 a4 rfl
  have b5 : bt (⟨⟨a0 :: a1 :: a2 :: a3 :: a4 :: a5 :: a6 :: r⟩⟩ : ByteArray) 5 = (a5.toNat : Int) := bt_lit _ 5 a5 rfl
  have b6 : bt (⟨⟨a0 :: a1 :: a2 :: a3 :: a4 :: a5 :: a6 :: r⟩⟩ : ByteArray) 6 = (a6.toNat : Int) := bt_lit _ 6 a6 rfl
  have t0 := a0.toNat_lt
  have t1 := a1.toNat_lt
  have t2 := a2.toNat_lt
  have t3 := a3.toNat_lt
  have t4 := a4.toNat_lt
  have t5 := a5.toNat_lt
  have t6 := a6.toNat_lt
  generalize hS : (⟨⟨a0 :: a1 :: a2 :: a3 :: a4 :: a5 :: a6 :: r⟩⟩ : ByteArray) = S at *
  have hS64 : (S.size : Int) = 64 := by rw [← hS]; show ((a0 :: a1 :: a2 :: a3 :: a4 :: a5 :: a6 :: r).length : Int) = 64; rw [h64]; rfl
  rw [h64, if_pos (by rfl), if_pos (by decide), if_pos (by decide)]
  have e0 : frames_Tell.l0 (k + 6) S 0 0 (wrap64 (bt S 4)) (wrap64 (bt S 5)) (⟨#[]⟩ : ByteArray) = frames_Tell.l0 (k + 2) S 4 (num4 a0 a1 a2 a3) a4.toNat a5.toNat (⟨#[]⟩ : ByteArray) := by
    rw [frames_Tell.l0, if_pos (by decide), if_pos (by decide), if_pos (by omega), show wrap64 ((0 : Int) + 1) = 1 from by unfold wrap64; omega,
      frames_Tell.l0, if_pos (by decide), if_pos (by decide), if_pos (by omega), show wrap64 ((1 : Int) + 1) = 2 from by unfold wrap64; omega,
      frames_Tell.l0, if_pos (by decide), if_pos (by decide), if_pos (by omega), show wrap64 ((2 : Int) + 1) = 3 from by unfold wrap64; omega,
      frames_Tell.l0, if_pos (by decide), if_pos (by decide), if_pos (by omega), show wrap64 ((3 : Int) + 1) = 4 from by unfold wrap64; omega]
    rw [show bt S 0 = _ from b0, show bt S 1 = _ from b1, show bt S 2 = _ from b2, show bt S 3 = _ from b3, show bt S 4 = _ from b4, show bt S 5 = _ from b5]
    rw [or256 0 a0 (by omega) (by omega), or256 _ a1 (by omega) (by omega), or256 _ a2 (by omega) (by omega), or256 _ a3 (by omega) (by omega), wrap_id (x := (a4.toNat : Int)) (by omega) (by omega), wrap_id (x := (a5.toNat : Int)) (by omega) (by omega)]
    rw [show (((0 * 256 + (a0.toNat : Int)) * 256 + a1.toNat) * 256 + a2.toNat) * 256 + a3.toNat = num4 a0 a1 a2 a3 from by unfold num4; omega]
  rw [e0, frames_Tell.l0, if_neg (by decide), if_pos (by omega), show bt S 6 = _ from b6, wrap_id (x := (a6.toNat : Int)) (by omega) (by omega), wrap_id (x := 7 + (a6.toNat : Int)) (by omega) (by omega)]
  show _ = some (tellT (tellP S.data.toList))
  rw [← hS]
  show _ = some (tellT (tellP (a0 :: a1 :: a2 :: a3 :: a4 :: a5 :: a6 :: r)))
  rw [tellP_eq]
  by_cases h55 : (a6.toNat : Int) > 55
  · rw [if_pos h55, if_neg (by rintro ⟨_, h, _⟩; have := h.2.2.2.2.2.2.1; omega)]; rfl
  rw [if_neg h55, if_pos (by omega)]
  have hS' : ByteArray.size (⟨⟨a0 :: a1 :: a2 :: a3 :: a4 :: a5 :: a6 :: r⟩⟩ : ByteArray) = 64 := h64
  rw [hS', if_pos (by omega)]
  have e1 : ByteArray.extract (⟨⟨a0 :: a1 :: a2 :: a3 :: a4 :: a5 :: a6 :: r⟩⟩ : ByteArray) 7 (7 + (a6.toNat : Int)).toNat = ⟨(r.take a6.toNat).toArray⟩ := by
    rw [extract_mid, show (7 + (a6.toNat : Int)).toNat - 7 = a6.toNat from by omega]; rfl
  have hl : (r.take a6.toNat).length = a6.toNat := by rw [List.length_take]; omega
  rw [e1, right_at _ _ _ _ (by omega) (by omega) (by omega), size_mk, hl, Option.bind_some]
  by_cases hok : okPart (num4 a0 a1 a2 a3) a4.toNat a5.toNat a6.toNat
  · rw [if_pos (decide_eq_true hok)]
    unfold frames_Part_sector.f
    rw [if_pos (by rw [size_mk, hl]; omega), Option.bind_some]
    by_cases hs : sect (num4 a0 a1 a2 a3) a4.toNat a5.toNat (r.take a6.toNat) = a0 :: a1 :: a2 :: a3 :: a4 :: a5 :: a6 :: r
    · rw [if_pos (by simp only [ByteArray.toList_eq]; exact hs), if_pos ⟨hr, hok, hs⟩]; rfl
    · rw [if_neg (by simp only [ByteArray.toList_eq]; exact hs), if_neg (fun h => hs h.2.2)]; rfl
  · rw [if_neg (by simpa using hok), if_neg (fun h => hok h.2.1)]; rfl
end Go.Proofs.Ytdjcaogffppdhaa.FramesPure
