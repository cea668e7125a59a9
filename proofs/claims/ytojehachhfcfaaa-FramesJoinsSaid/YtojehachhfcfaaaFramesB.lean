/- What the document's Sector and Lay answer, as functions of lists of bytes. -/
import Derived.Test.YtojehachhfcfaaaFramesA
import Derived.Test.YtojehachhfcfaaaPrint1
set_option linter.unusedVariables false
set_option linter.unusedSimpArgs false
namespace Go.Proofs.Ytojehachhfcfaaa.FramesPure
open Go.RowKit Go.Proofs.Ytojehachhfcfaaa.SumPure Go.Proofs.Ytojehachhfcfaaa.Arr Go.Proofs.Ytojehachhfcfaaa.Sect Go.Proofs.Ytojehachhfcfaaa.Print Go.Proofs.YtojehachhfcfaaaW.PrintWords Go.Proofs.YtojehachhfcfaaaW.PrintLast Go.Proofs.YtojehachhfcfaaaW.PrintMore

theorem bytes_ints (s : ByteArray) : bytesOf s = ints s.data.toList := by
  first | rfl | (unfold bytesOf ints; simp [ByteArray.toList_eq])
def tail2 (B : List UInt8) : List UInt8 := B ++ [b8 (sumL 1 B / 256), b8 (sumL 1 B)]
theorem RSec_l0 (m : Nat) : ∀ (k : Nat) (L : List UInt8), L.length + m = 62 → m + 66 ≤ k →
    stevedoreref04_Sector.l0 k (ints L) = some ⟨(tail2 (L ++ List.replicate m 0)).toArray⟩ := by
  induction m with
  | zero =>
    intro k L hL hk
    obtain ⟨k, rfl⟩ : ∃ m, k = m + 1 := ⟨k - 1, by omega⟩
    simp only [stevedoreref04_Sector.l0]
    rw [ints_len, if_neg (by omega), str_ints, ref_Sum_at _ (by rw [size_mk]; omega) (by rw [size_mk]; omega), Option.bind_some, Option.bind_some, if_pos (by simp; omega)]
    have hr := sumL_range 1 L (by omega) (by omega)
    rw [List.replicate_zero, List.append_nil]
    rw [show (⟨L.toArray⟩ : ByteArray).data.toList = L from by simp]
    rw [show ([(wrap64 (Int.tdiv (sumL 1 L) 256)) % 256, (sumL 1 L) % 256] : List Int) = ints [b8 (sumL 1 L / 256), b8 (sumL 1 L)] from by
      simp only [ints, List.map_cons, List.map_nil, b8_int]
      rw [Int.tdiv_eq_ediv_of_nonneg hr.1, wrap_id (by omega) (by omega)]]
    rw [← ints_append, str_ints]; rfl
  | succ m ih =>
    intro k L hL hk
    obtain ⟨k, rfl⟩ : ∃ m, k = m + 1 := ⟨k - 1, by omega⟩
    simp only [stevedoreref04_Sector.l0]
    rw [ints_len, if_pos (by omega), if_pos (by omega)]
    have e : ints L ++ [0] = ints (L ++ [0]) := by rw [ints_append]; rfl
    rw [e, ih k (L ++ [0]) (by simp; omega) (by omega)]
    rw [List.append_assoc]
    rfl
theorem RSec_at (n p q : Int) (d : ByteArray) (hn : 0 ≤ n) (hn' : n ≤ 9223372036854775807) (hd : d.size ≤ 55) {k : Nat} (hk : 130 ≤ k) : stevedoreref04_Sector.f k n p q d = some ⟨(sect n p q d.data.toList).toArray⟩ := by
  unfold stevedoreref04_Sector.f
  have hl := size_len d
  rw [Option.bind_some, if_pos (by simp; omega)]
  rw [show ([(wrap64 (Int.tdiv n 16777216)) % 256, (wrap64 (Int.tdiv n 65536)) % 256, (wrap64 (Int.tdiv n 256)) % 256, n % 256, p % 256, q % 256, ((d.size : Int)) % 256] : List Int) = ints (head n p q d.data.toList) from by
    simp only [head, ints, List.map_cons, List.map_nil, b8_int, hl]
    rw [Int.tdiv_eq_ediv_of_nonneg hn, Int.tdiv_eq_ediv_of_nonneg hn, Int.tdiv_eq_ediv_of_nonneg hn, wrap_id (by omega) (by omega), wrap_id (by omega) (by omega), wrap_id (by omega) (by omega)]]
  rw [bytes_ints, ← ints_append, RSec_l0 (55 - d.size) k _ (by rw [List.length_append, hl]; simp [head]; omega) (by omega)]
  simp only [tail2, sect, body, hl]

theorem RLay_l0 (n : Int) (D : List UInt8) (q : Nat) (hn : 0 ≤ n) (hn' : n ≤ 9223372036854775807) (hD : D.length ≤ 440) (hq : q = cnt D.length) (d : Nat) : ∀ (k i : Nat), i + d = q → d + 132 ≤ k →
    stevedoreref04_Lay.l0 k n ⟨D.toArray⟩ q ((List.range i).map (secAt n D q)) i = some ((List.range q).map (secAt n D q), 0) := by
  have h8 := (cnt_le D.length).2 hD
  induction d with
  | zero =>
    intro k i hi hk
    obtain ⟨k, rfl⟩ : ∃ m, k = m + 1 := ⟨k - 1, by omega⟩
    simp only [stevedoreref04_Lay.l0]
    rw [if_neg (by omega), show i = q from by omega]
  | succ d ih =>
    intro k i hi hk
    obtain ⟨k, rfl⟩ : ∃ m, k = m + 1 := ⟨k - 1, by omega⟩
    simp only [stevedoreref04_Lay.l0]
    have hsz : ByteArray.size ⟨D.toArray⟩ = D.length := size_mk _
    rw [hsz, wrap_id (x := (i : Int) * 55) (by omega) (by omega), wrap_id (x := (i : Int) + 1) (by omega) (by omega), wrap_id (x := ((i : Int) + 1) * 55) (by omega) (by omega)]
    have hm : mn (D.length : Int) (((i : Int) + 1) * 55) = ((min D.length ((i + 1) * 55) : Nat) : Int) := by
      unfold mn; split <;> omega
    have hb : i * 55 ≤ D.length := by rw [hq] at hi; unfold cnt at hi; omega
    rw [hm, if_pos (by omega), if_pos (by omega), if_pos (by omega), if_pos (by omega)]
    have e1 : ByteArray.extract ⟨D.toArray⟩ ((i : Int) * 55).toNat ((min D.length ((i + 1) * 55) : Nat) : Int).toNat = ⟨(chunk D i).toArray⟩ := by
      rw [extract_mid, show ((i : Int) * 55).toNat = 55 * i from by omega, Int.toNat_natCast]
      congr 2
      show (List.drop (55 * i) D).take (min D.length ((i + 1) * 55) - 55 * i) = (List.drop (55 * i) D).take 55
      rcases Nat.le_total D.length ((i + 1) * 55) with h | h
      · rw [Nat.min_eq_left h, List.take_of_length_le (by rw [List.length_drop]; omega), List.take_of_length_le (by rw [List.length_drop]; omega)]
      · rw [Nat.min_eq_right h, show (i + 1) * 55 - 55 * i = 55 from by omega]
    have hc : (chunk D i).length ≤ 55 := by simp [chunk]; omega
    rw [e1, RSec_at n i q _ hn hn' (by rw [size_mk]; exact hc) (by omega), Option.bind_some, if_pos (by simp; omega)]
    have := ih k (i + 1) (by omega) (by omega)
    rw [List.range_succ, List.map_append] at this
    rw [show (⟨(chunk D i).toArray⟩ : ByteArray).data.toList = chunk D i from by simp]
    exact this
theorem RLay_at (n : Int) (a : ByteArray) (ha : a.size ≤ 1000000000000000) {k : Nat} (hk : 150 ≤ k) : stevedoreref04_Lay.f k n a = some (layP n a.data.toList) := by
  obtain ⟨k, rfl⟩ : ∃ m, k = m + 1 := ⟨k - 1, by omega⟩
  have hl := size_len a
  unfold stevedoreref04_Lay.f
  simp only [stevedoreref04_Lay.j0, layP]
  by_cases h1 : n < 1
  · rw [if_pos h1, if_pos trivial, if_neg (by unfold okLay; omega)]
  by_cases h2 : n > 2147483647
  · rw [if_neg h1, if_pos h2, if_pos trivial, if_neg (by unfold okLay; omega)]
  rw [if_neg h1, if_neg h2]
  by_cases h3 : (a.size : Int) > 440
  · rw [if_pos (by rw [decide_eq_true_eq]; exact h3), if_neg (by unfold okLay; rw [hl]; omega)]
  · rw [if_neg (by rw [decide_eq_true_eq]; exact h3), if_pos (by unfold okLay; rw [hl]; omega)]
    unfold stevedoreref04_Count.f
    rw [cnt_mx a.size ha, Option.bind_some]
    have h8 := (cnt_le a.size).2 (by omega)
    have := RLay_l0 n a.data.toList (cnt a.size) (by omega) (by omega) (by rw [hl]; omega) (by rw [hl]) (cnt a.size) k 0 (by omega) (by omega)
    rw [ba_eta] at this
    unfold secs
    rw [hl]
    exact this
end Go.Proofs.Ytojehachhfcfaaa.FramesPure
