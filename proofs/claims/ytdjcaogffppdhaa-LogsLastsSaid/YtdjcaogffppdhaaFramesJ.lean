/- What frames.Join answers, as a function of lists of sectors. -/
import Derived.Test.YtdjcaogffppdhaaFramesA
import Derived.Test.YtdjcaogffppdhaaBase5
set_option linter.unusedVariables false
set_option linter.unusedSimpArgs false
namespace Go.Proofs.Ytdjcaogffppdhaa.FramesPure
open Go.RowKit Go.Proofs.Ytdjcaogffppdhaa.SumPure Go.Proofs.Ytdjcaogffppdhaa.Arr Go.Proofs.Ytdjcaogffppdhaa.Sect Go.Proofs.YtdjcaogffppdhaaW.PrintWords Go.Proofs.YtdjcaogffppdhaaW.PrintLast Go.Proofs.YtdjcaogffppdhaaW.PrintMore

theorem rd_at {α : Type} (z : α) (l : List α) (i : Nat) (c : α) (h : l[i]? = some c) : rdOf z l (i : Int) = c := by
  unfold rdOf
  rw [Int.toNat_natCast, List.getD_eq_getElem?_getD, h]; rfl
theorem str_eq (a b : ByteArray) : a.toList = b.toList ↔ a = b := by
  simp only [ByteArray.toList_eq]
  exact ⟨fun h => ba_ext h, fun h => by rw [h]⟩
theorem Equal_l0 (a b : List ByteArray) (hl : a.length = b.length) (ha : a.length ≤ 1000000000000000) (d : Nat) : ∀ (k i : Nat), i + d = a.length → d < k →
    slices_Equal_string_string.l0 k a b (a.length : Int) (i : Int) = some (decide (a.drop i = b.drop i)) := by
  induction d with
  | zero =>
    intro k i hi hk
    obtain ⟨k, rfl⟩ : ∃ m, k = m + 1 := ⟨k - 1, by omega⟩
    simp only [slices_Equal_string_string.l0]
    rw [if_neg (by omega), List.drop_eq_nil_of_le (by omega), List.drop_eq_nil_of_le (by omega)]; rfl
  | succ d ih =>
    intro k i hi hk
    obtain ⟨k, rfl⟩ : ∃ m, k = m + 1 := ⟨k - 1, by omega⟩
    have h1 : i < a.length := by omega
    have h2 : i < b.length := by omega
    simp only [slices_Equal_string_string.l0]
    rw [if_pos (by omega), if_pos (by omega), if_pos (by omega), if_pos (by omega), rd_at _ a i a[i] (by simp [h1]), rd_at _ b i b[i] (by simp [h2]), wrap_id (x := (i : Int) + 1) (by omega) (by omega)]
    rw [List.drop_eq_getElem_cons h1, List.drop_eq_getElem_cons h2]
    by_cases h : a[i] = b[i]
    · rw [if_pos ((str_eq _ _).2 h)]
      have := ih k (i + 1) (by omega) (by omega)
      rw [show ((i : Int) + 1) = ((i + 1 : Nat) : Int) from by omega, this]
      simp only [List.cons.injEq, h, true_and]
    · rw [if_neg (fun h' => h ((str_eq _ _).1 h'))]
      simp only [List.cons.injEq, h, false_and, decide_false]
theorem Equal_at (a b : List ByteArray) (ha : a.length ≤ 1000000000000000) {k : Nat} (hk : a.length + 1 ≤ k) : slices_Equal_string_string.f k a b = some (decide (a = b)) := by
  unfold slices_Equal_string_string.f
  by_cases h : a.length = b.length
  · rw [if_pos (by omega)]
    have := Equal_l0 a b h ha a.length k 0 (by omega) (by omega)
    simpa using this
  · rw [if_neg (by omega), decide_eq_false (fun h' => h (by rw [h']))]
/-! ### Joining -/
def recs : List S94 → List ByteArray → List S94
  | acc, [] => acc
  | acc, s :: ss => match tellP s.data.toList with
    | none => acc
    | some (n, p, q, d) => if acc ≠ [] ∧ (acc.length : Int) = (rd_T94 acc 0).f2 then acc else recs (acc ++ [⟨n, p, q, ⟨d.toArray⟩⟩]) ss
def joinP (ss : List ByteArray) : Int × ByteArray × Int × Int :=
  if recs [] ss ≠ [] ∧ ((recs [] ss).length : Int) = (rd_T94 (recs [] ss) 0).f2 ∧ layP (rd_T94 (recs [] ss) 0).f0 (datas (recs [] ss)) = (ss.take (recs [] ss).length, 0) then
    ((rd_T94 (recs [] ss) 0).f0, ⟨(datas (recs [] ss)).toArray⟩, ((recs [] ss).length : Int), 0)
  else (0, ⟨#[]⟩, 0, 43)

theorem rd27_app (acc : List S94) (x : S94) (h : acc ≠ []) : rd_T94 (acc ++ [x]) 0 = rd_T94 acc 0 := by
  cases acc with
  | nil => exact absurd rfl h
  | cons a acc => rfl
/-- What stands in a collected list: right parts, no more than the first one's count. -/
def Good (acc : List S94) : Prop := (∀ p ∈ acc, okPart p.f0 p.f1 p.f2 p.f3.size) ∧ (acc ≠ [] → (acc.length : Int) ≤ (rd_T94 acc 0).f2)
theorem Good.le {acc : List S94} (h : Good acc) : acc.length ≤ 8 := by
  cases acc with
  | nil => simp
  | cons a acc =>
    have h1 := h.2 (by simp)
    have h2 := h.1 a (by simp)
    have h3 := h2.2.2.2.1
    have h4 : (rd_T94 (a :: acc) 0).f2 = a.f2 := rfl
    rw [h4] at h1
    omega
theorem Good.nil : Good [] := ⟨by simp, by simp⟩
theorem Good.snoc {acc : List S94} (h : Good acc) {l : List UInt8} {n p q : Int} {d : List UInt8} (ht : tellP l = some (n, p, q, d)) (hne : ¬(acc ≠ [] ∧ (acc.length : Int) = (rd_T94 acc 0).f2)) : Good (acc ++ [⟨n, p, q, ⟨d.toArray⟩⟩]) := by
  obtain ⟨hok, _⟩ := tellP_some ht
  refine ⟨?_, ?_⟩
  · intro x hx
    rcases List.mem_append.1 hx with hx | hx
    · exact h.1 x hx
    · obtain rfl := List.mem_singleton.1 hx
      show okPart n p q (ByteArray.size ⟨d.toArray⟩)
      rw [size_mk]; exact hok
  · intro _
    by_cases ha : acc = []
    · subst ha
      show ((0 + 1 : Nat) : Int) ≤ q
      have := hok.2.2.1
      omega
    · rw [rd27_app acc _ ha, List.length_append]
      have h1 := h.2 ha
      have h2 : (acc.length : Int) ≠ (rd_T94 acc 0).f2 := fun e => hne ⟨ha, e⟩
      simp only [List.length_cons, List.length_nil]
      omega
theorem recs_good (ss : List ByteArray) : ∀ acc, Good acc → Good (recs acc ss) ∧ (recs acc ss).length ≤ acc.length + ss.length := by
  induction ss with
  | nil => intro acc h; exact ⟨h, by simp [recs]⟩
  | cons s ss ih =>
    intro acc h
    unfold recs
    split
    · exact ⟨h, by simp⟩
    · rename_i n p q d ht
      split
      · exact ⟨h, by simp⟩
      · rename_i hne
        have := ih _ (h.snoc ht hne)
        exact ⟨this.1, by have := this.2; simp at this ⊢; omega⟩
theorem datas_le (acc : List S94) (h : ∀ p ∈ acc, okPart p.f0 p.f1 p.f2 p.f3.size) : (datas acc).length ≤ 55 * acc.length := by
  induction acc with
  | nil => simp [datas]
  | cons a acc ih =>
    have h1 := h a (by simp)
    have h2 := ih (fun p hp => h p (by simp [hp]))
    have h3 := h1.2.2.2.2.2.2.1
    have h4 := size_len a.f3
    simp only [datas, List.flatMap_cons, List.length_append, List.length_cons] at h2 ⊢
    omega
theorem tellT_e (l : List UInt8) (n p q : Int) (d : List UInt8) (h : tellP l = some (n, p, q, d)) : tellT (tellP l) = (n, p, q, ⟨d.toArray⟩, 0) := by rw [h]; rfl
theorem Join_l0 (ss : List ByteArray) (hs : ss.length ≤ 1000000000000000) (d : Nat) : ∀ (k i : Nat) (acc : List S94), Good acc → i + d = ss.length → 40 ≤ k + acc.length →
    ∃ k', 28 ≤ k' ∧ frames_Join.l0 k ss acc ss (ss.length : Int) (i : Int) = frames_Join.j1 k' ss (recs acc (ss.drop i)) := by
  induction d with
  | zero =>
    intro k i acc hg hi hk
    have hle := hg.le
    obtain ⟨k, rfl⟩ : ∃ m, k = m + 1 := ⟨k - 1, by omega⟩
    refine ⟨k, by omega, ?_⟩
    simp only [frames_Join.l0]
    rw [if_neg (by omega), List.drop_eq_nil_of_le (by omega)]; rfl
  | succ d ih =>
    intro k i acc hg hi hk
    have hle := hg.le
    obtain ⟨k, rfl⟩ : ∃ m, k = m + 1 := ⟨k - 1, by omega⟩
    have h1 : i < ss.length := by omega
    simp only [frames_Join.l0]
    rw [if_pos (by omega), if_pos (by omega), if_pos (by omega), rd_at _ ss i ss[i] (by simp [h1]), Tell_at _ (by omega), Option.bind_some, List.drop_eq_getElem_cons h1]
    rcases ht : tellP ss[i].data.toList with _ | ⟨n, p, q, dd⟩
    · refine ⟨k, by omega, ?_⟩
      have e : recs acc (ss[i] :: ss.drop (i + 1)) = acc := by rw [recs, ht]
      rw [e]; rfl
    · have e : recs acc (ss[i] :: ss.drop (i + 1)) = if acc ≠ [] ∧ (acc.length : Int) = (rd_T94 acc 0).f2 then acc else recs (acc ++ [⟨n, p, q, ⟨dd.toArray⟩⟩]) (ss.drop (i + 1)) := by rw [recs, ht]
      rw [e]
      simp only [tellT, if_true]
      rw [wrap_id (x := (i : Int) + 1) (by omega) (by omega)]
      rcases List.eq_nil_or_concat acc with ha | ⟨a', b', ha⟩
      · subst ha
        simp only [List.length_nil] at hk
        rw [if_neg (show ¬((([] : List S94).length : Int) > 0) from by simp), if_pos (show ([] : List S94).length < 3518437208883 from by simp), if_neg (show ¬(([] : List S94) ≠ [] ∧ (([] : List S94).length : Int) = (rd_T94 [] 0).f2) from by simp)]
        have := ih k (i + 1) ([] ++ [⟨n, p, q, ⟨dd.toArray⟩⟩]) (hg.snoc ht (by simp)) (by omega) (by simp; omega)
        exact this
      · have hne : acc ≠ [] := by rw [ha]; simp
        have hp : 0 < acc.length := List.length_pos_iff.2 hne
        rw [if_pos (by omega), if_pos (by omega)]
        by_cases hf : (acc.length : Int) = (rd_T94 acc 0).f2
        · rw [if_pos hf, if_pos ⟨hne, hf⟩]; exact ⟨k, by omega, rfl⟩
        · rw [if_neg hf, if_pos (show acc.length < 3518437208883 from by omega), if_neg (show ¬(acc ≠ [] ∧ (acc.length : Int) = (rd_T94 acc 0).f2) from fun h => hf h.2)]
          have := ih k (i + 1) (acc ++ [⟨n, p, q, ⟨dd.toArray⟩⟩]) (hg.snoc ht (fun h => hf h.2)) (by omega) (by simp; omega)
          exact this
theorem secs_len (n : Int) (D : List UInt8) : (secs n D).length = cnt D.length := by simp [secs]
theorem Join_at (ss : List ByteArray) (hs : ss.length ≤ 1000000000000000) {k : Nat} (hk : 40 ≤ k) : frames_Join.f k ss = some (joinP ss) := by
  unfold frames_Join.f
  obtain ⟨k', hk', e⟩ := Join_l0 ss hs ss.length k 0 [] Good.nil (by omega) (by simp; omega)
  rw [show ((0 : Nat) : Int) = 0 from rfl] at e
  rw [e, List.drop_zero]
  obtain ⟨hg, hl⟩ := recs_good ss [] Good.nil
  unfold joinP
  generalize hA : recs [] ss = A at *
  have hA8 := hg.le
  obtain ⟨k', rfl⟩ : ∃ m, k' = m + 2 := ⟨k' - 2, by omega⟩
  simp only [frames_Join.j1, frames_Join.j2]
  by_cases h0 : (A.length : Int) = 0
  · have : A = [] := List.length_eq_zero_iff.1 (by omega)
    rw [if_pos h0, if_pos trivial, if_neg (by rw [this]; simp)]
  have hne : A ≠ [] := fun h => h0 (by rw [h]; rfl)
  rw [if_neg h0, if_pos (by omega)]
  rcases Decidable.em ((A.length : Int) ≠ (rd_T94 A 0).f2) with hf | hf
  · rw [if_pos (by simpa using hf), if_neg (fun h => hf h.2.1)]
  have hf := Decidable.not_not.1 hf
  rw [if_neg (by simpa using hf)]
  unfold frames_JoinH.f
  have hd := datas_le A hg.1
  rw [if_pos ⟨by omega, by simpa using hl, by omega⟩, Lay_at _ _ (by rw [size_mk]; omega) (by omega), Option.bind_some]
  rw [show (⟨(datas A).toArray⟩ : ByteArray).data.toList = datas A from by simp]
  by_cases hok : okLay (rd_T94 A 0).f0 (datas A)
  · have e2 : layP (rd_T94 A 0).f0 (datas A) = (secs (rd_T94 A 0).f0 (datas A), 0) := by unfold layP; rw [if_pos hok]
    have h8 : (secs (rd_T94 A 0).f0 (datas A)).length ≤ 8 := by rw [secs_len]; exact (cnt_le _).2 hok.2.2
    rw [e2]
    simp only [if_true]
    rw [Equal_at _ _ (by omega) (by omega), Option.bind_some]
    by_cases heq : secs (rd_T94 A 0).f0 (datas A) = ss.take A.length
    · rw [if_pos (decide_eq_true heq), if_pos ⟨hne, hf, by rw [heq]⟩]
    · rw [if_neg (by simpa using heq), if_neg (fun h => heq (by have := h.2.2; simpa using this))]
  · have e2 : layP (rd_T94 A 0).f0 (datas A) = ([], 43) := by unfold layP; rw [if_neg hok]
    rw [e2, if_neg (by decide), if_neg (fun h => by have := h.2.2; simp at this)]

/-! ### What joining means -/
theorem chunk_len (D : List UInt8) (i : Nat) : (chunk D i).length = min 55 (D.length - 55 * i) := by simp [chunk]
theorem ok_chunk {n : Int} {D : List UInt8} (h : okLay n D) {i : Nat} (hi : i < cnt D.length) : okPart n i (cnt D.length : Nat) (chunk D i).length := by
  rw [chunk_len]
  have h1 := (cnt_le D.length).2 h.2.2
  obtain ⟨a, b, c⟩ := h
  unfold cnt at *
  unfold okPart
  omega
theorem tell_sec {n : Int} {D : List UInt8} (h : okLay n D) {i : Nat} (hi : i < cnt D.length) : tellP (secAt n D (cnt D.length) i).data.toList = some (n, (i : Int), (cnt D.length : Int), chunk D i) := by
  show tellP (sect n i (cnt D.length : Nat) (chunk D i)) = _
  exact tell_sect _ _ _ _ (ok_chunk h hi)
def part (n : Int) (D : List UInt8) (i : Nat) : S94 := ⟨n, i, (cnt D.length : Nat), ⟨(chunk D i).toArray⟩⟩
theorem cnt_pos (m : Nat) : 1 ≤ cnt m := by unfold cnt; omega
theorem rd27_range (n : Int) (D : List UInt8) (m : Nat) (h : 0 < m) : rd_T94 ((List.range m).map (part n D)) 0 = part n D 0 := by
  obtain ⟨m, rfl⟩ : ∃ j, m = j + 1 := ⟨m - 1, by omega⟩
  rw [List.range_succ_eq_map]; rfl
theorem recs_secs {n : Int} {D : List UInt8} (h : okLay n D) (tl : List ByteArray) (d : Nat) : ∀ i, i + d = cnt D.length →
    recs ((List.range i).map (part n D)) ((List.range' i d).map (secAt n D (cnt D.length)) ++ tl) = (List.range (cnt D.length)).map (part n D) := by
  induction d with
  | zero =>
    intro i hi
    rw [show i = cnt D.length from by omega]
    simp only [List.range'_zero, List.map_nil, List.nil_append]
    cases tl with
    | nil => rfl
    | cons s tl =>
      unfold recs
      have hp := cnt_pos D.length
      split
      · rfl
      · rw [if_pos ⟨by rw [Ne, List.map_eq_nil_iff, List.range_eq_nil]; omega, by rw [rd27_range n D _ (by omega)]; simp [part]⟩]
  | succ d ih =>
    intro i hi
    rw [List.range'_succ, List.map_cons, List.cons_append, recs, tell_sec h (by omega)]
    have := ih (i + 1) (by omega)
    rw [List.range_succ, List.map_append] at this
    dsimp only
    rw [if_neg]
    · exact this
    · rintro ⟨h1, h2⟩
      have hp : 0 < i := by
        rcases Nat.eq_zero_or_pos i with h0 | h0
        · exact absurd (by rw [h0]; rfl) h1
        · exact h0
      rw [rd27_range n D _ hp] at h2
      simp [part] at h2
      omega
theorem chunks (D : List UInt8) (d : Nat) : ∀ i, D.length ≤ 55 * (i + d) → (List.range' i d).flatMap (chunk D) = D.drop (55 * i) := by
  induction d with
  | zero => intro i h; rw [List.drop_eq_nil_of_le (by omega)]; rfl
  | succ d ih =>
    intro i h
    rw [List.range'_succ, List.flatMap_cons, ih (i + 1) (by omega)]
    unfold chunk
    rw [show 55 * (i + 1) = 55 * i + 55 from by omega, ← List.drop_drop, List.take_append_drop]
theorem datas_parts (n : Int) (D : List UInt8) : datas ((List.range (cnt D.length)).map (part n D)) = D := by
  unfold datas
  rw [List.flatMap_map]
  have := chunks D (cnt D.length) 0 (by unfold cnt; omega)
  rw [← List.range_eq_range'] at this
  simpa [part] using this
theorem join_secs {n : Int} {D : List UInt8} (h : okLay n D) (tl : List ByteArray) : joinP (secs n D ++ tl) = (n, ⟨D.toArray⟩, (cnt D.length : Int), 0) := by
  have e : recs [] (secs n D ++ tl) = (List.range (cnt D.length)).map (part n D) := by
    have := recs_secs h tl (cnt D.length) 0 (by omega)
    rw [← List.range_eq_range'] at this
    exact this
  have hp := cnt_pos D.length
  unfold joinP
  rw [e, datas_parts, rd27_range n D _ (by omega)]
  have hl : ((List.range (cnt D.length)).map (part n D)).length = cnt D.length := by simp
  rw [hl]
  rw [if_pos]
  · rfl
  · refine ⟨by rw [Ne, List.map_eq_nil_iff, List.range_eq_nil]; omega, rfl, ?_⟩
    show layP n D = _
    unfold layP
    rw [if_pos h, List.take_left' (secs_len n D)]
/-- What is joined was laid; and what isn't is the error, and nothing else. -/
theorem join_back (ss : List ByteArray) : joinP ss = (0, ⟨#[]⟩, 0, 43) ∨ ∃ n D, okLay n D ∧ secs n D = ss.take (cnt D.length) ∧ cnt D.length ≤ ss.length ∧ joinP ss = (n, ⟨D.toArray⟩, (cnt D.length : Int), 0) := by
  by_cases h : recs [] ss ≠ [] ∧ ((recs [] ss).length : Int) = (rd_T94 (recs [] ss) 0).f2 ∧ layP (rd_T94 (recs [] ss) 0).f0 (datas (recs [] ss)) = (ss.take (recs [] ss).length, 0)
  · right
    have hj : joinP ss = ((rd_T94 (recs [] ss) 0).f0, ⟨(datas (recs [] ss)).toArray⟩, ((recs [] ss).length : Int), 0) := by unfold joinP; rw [if_pos h]
    obtain ⟨h1, h2, h3⟩ := h
    have hl := (recs_good ss [] Good.nil).2
    simp only [List.length_nil, Nat.zero_add] at hl
    have hok : okLay (rd_T94 (recs [] ss) 0).f0 (datas (recs [] ss)) := by
      by_cases hc : okLay (rd_T94 (recs [] ss) 0).f0 (datas (recs [] ss))
      · exact hc
      · unfold layP at h3; rw [if_neg hc] at h3; simp at h3
    unfold layP at h3
    rw [if_pos hok] at h3
    have h4 : secs (rd_T94 (recs [] ss) 0).f0 (datas (recs [] ss)) = ss.take (recs [] ss).length := by simpa using h3
    have h5 : cnt (datas (recs [] ss)).length = (recs [] ss).length := by
      have := congrArg List.length h4
      rw [secs_len, List.length_take] at this
      omega
    exact ⟨_, _, hok, by rw [h4, h5], by omega, by rw [hj, h5]⟩
  · left; unfold joinP; rw [if_neg h]
end Go.Proofs.Ytdjcaogffppdhaa.FramesPure
