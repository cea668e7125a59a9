/- The statement NumsBack of the program's layer 1 over the functions that the printed texts tell. -/
import Derived.Test.YtcdndnebmonlfaaNumsAwake
set_option linter.unusedVariables false
namespace Go.Proofs.Ytcdndnebmonlfaa.Pure
open Go.RowKit Go.Proofs.Ytcdndnebmonlfaa.Print Go.Proofs.Ytcdndnebmonlfaa.NumsPure Go.Proofs.YtcdndnebmonlfaaW.PrintWords Go.Proofs.YtcdndnebmonlfaaW.PrintLast Go.Proofs.YtcdndnebmonlfaaW.PrintMore
open Go.Proofs.Ytcdndnebmonlfaa.Put (digits digits_lt digits_ge)
theorem back_l1 (l : List Int) (s b : ByteArray) (hw : ∀ x ∈ l, (Lit.int .i64 x).wf = true) (hn : ∀ x ∈ l, 0 ≤ x) (hl : l.length ≤ 17592186043904) (hs : s.size ≤ 140737488351232) (hb : b.size ≤ 140737488351232) (d : Nat) : ∀ (k i : Nat), i + d = l.length → d + 70 < k →
    stevedorelaw01_NumsBack.l1 k l s b ⟨(Put.putAll (l.drop i) ++ (digits s.size ++ s.data.toList) ++ b.data.toList).toArray⟩ (i : Int) = some true := by
  have hdl := digits_le 8 s.size (by rw [p9]; omega)
  have hsz : ∀ i, ByteArray.size ⟨(Put.putAll (l.drop i) ++ (digits s.size ++ s.data.toList) ++ b.data.toList).toArray⟩ ≤ 1000000000000000 := by
    intro i
    have h1 := putAll_len (l.drop i) (fun x hx => hw x (List.mem_of_mem_drop hx))
    rw [size_mk, List.length_append, List.length_append, List.length_append, size_len, size_len]
    rw [List.length_drop] at h1
    omega
  induction d with
  | zero =>
    intro k i hi hk
    obtain ⟨k, rfl⟩ : ∃ m, k = m + 1 := ⟨k - 1, by omega⟩
    simp only [stevedorelaw01_NumsBack.l1]
    rw [if_neg (by omega), nums_TakeText_at _ (hsz i) (by omega), List.drop_of_length_le (by omega)]
    have hp : Put.putAll [] = [] := rfl
    have hT : T true 9 (([] ++ (digits s.size ++ s.data.toList) ++ b.data.toList : List UInt8)) = some (s.size, s.data.toList ++ b.data.toList) := by
      rw [List.nil_append, List.append_assoc]
      exact T_digits 8 true s.size _ (by rw [p9]; omega) (.inl rfl)
    rw [hp]
    have hA : textA (T true 9 (⟨(([] ++ (digits s.size ++ s.data.toList) ++ b.data.toList : List UInt8)).toArray⟩ : ByteArray).data.toList) = (s, b, 0) := by
      have e : (⟨(([] ++ (digits s.size ++ s.data.toList) ++ b.data.toList : List UInt8)).toArray⟩ : ByteArray).data.toList = [] ++ (digits s.size ++ s.data.toList) ++ b.data.toList := by simp
      rw [e, hT]
      simp only [textA]
      rw [if_neg (by rw [List.length_append, size_len]; omega), List.take_append_of_le_length (by rw [size_len]; omega), List.take_of_length_le (by rw [size_len]; omega), List.drop_append_of_le_length (by rw [size_len]; omega), List.drop_of_length_le (by rw [size_len]; omega), List.nil_append, ba_eta, ba_eta]
    rw [hA]
    simp only [Option.bind_some, if_true]
    rw [awake_at (by omega)]
    rfl
  | succ d ih =>
    intro k i hi hk
    obtain ⟨k, rfl⟩ : ∃ m, k = m + 1 := ⟨k - 1, by omega⟩
    have hmem : l.getD i 0 ∈ l := by
      rw [List.getD_eq_getElem?_getD, List.getElem?_eq_getElem (by omega)]; exact List.getElem_mem _
    have hb1 := wf64 (hw _ hmem)
    have hb2 := hn _ hmem
    have hdrop : l.drop i = l.getD i 0 :: l.drop (i + 1) := by
      rw [List.drop_eq_getElem_cons (by omega), List.getD_eq_getElem?_getD, List.getElem?_eq_getElem (by omega)]; rfl
    have hput : Put.putAll (l.drop i) = digits (l.getD i 0).toNat ++ Put.putAll (l.drop (i + 1)) := by rw [hdrop]; rfl
    have hT := T_digits 8 true (l.getD i 0).toNat (Put.putAll (l.drop (i + 1)) ++ (digits s.size ++ s.data.toList) ++ b.data.toList) (by rw [p9]; omega) (.inl rfl)
    have hA : takeA (T true 9 (⟨(Put.putAll (l.drop i) ++ (digits s.size ++ s.data.toList) ++ b.data.toList).toArray⟩ : ByteArray).data.toList) = (l.getD i 0, ⟨(Put.putAll (l.drop (i + 1)) ++ (digits s.size ++ s.data.toList) ++ b.data.toList).toArray⟩, 0) := by
      have e : (⟨(Put.putAll (l.drop i) ++ (digits s.size ++ s.data.toList) ++ b.data.toList).toArray⟩ : ByteArray).data.toList = digits (l.getD i 0).toNat ++ (Put.putAll (l.drop (i + 1)) ++ (digits s.size ++ s.data.toList) ++ b.data.toList) := by rw [hput]; simp
      rw [e, hT]
      simp only [takeA]
      congr 1
      omega
    simp only [stevedorelaw01_NumsBack.l1]
    rw [if_pos (by omega), nums_Take_at _ (hsz i) (by omega), hA]
    simp only [Option.bind_some, if_true]
    have h1 := putAll_len (l.drop (i + 1)) (fun x hx => hw x (List.mem_of_mem_drop hx))
    rw [if_pos (by omega), if_pos (show l.getD i 0 = rd l (i : Int) from rfl), if_neg, wrap_id (x := (i : Int) + 1) (by omega) (by omega)]
    · exact ih k (i + 1) (by omega) (by omega)
    · have hd1 : 1 ≤ (digits (l.getD i 0).toNat).length := Put.digits_len _
      rw [size_mk (Put.putAll (l.drop (i + 1)) ++ (digits s.size ++ s.data.toList) ++ b.data.toList), size_mk (Put.putAll (l.drop i) ++ (digits s.size ++ s.data.toList) ++ b.data.toList), hput]
      simp only [List.length_append]
      omega
theorem back_l0 (l : List Int) (s b : ByteArray) (hw : ∀ x ∈ l, (Lit.int .i64 x).wf = true) (hl : l.length ≤ 17592186043904) (hs : s.size ≤ 140737488351232) (hb : b.size ≤ 140737488351232) (d : Nat) : ∀ (k i : Nat), i + d = l.length → d + l.length + 80 < k → (∀ j, j < i → 0 ≤ l.getD j 0) →
    stevedorelaw01_NumsBack.l0 k l s b (i : Int) = some true := by
  induction d with
  | zero =>
    intro k i hi hk hn
    obtain ⟨k, rfl⟩ : ∃ m, k = m + 1 := ⟨k - 1, by omega⟩
    have hall : ∀ x ∈ l, 0 ≤ x := by
      intro x hx
      obtain ⟨j, hj, rfl⟩ := List.getElem_of_mem hx
      have := hn j (by omega)
      rw [List.getD_eq_getElem?_getD, List.getElem?_eq_getElem hj] at this
      exact this
    have h1 := putAll_len l hw
    have hdl := digits_le 8 s.size (by rw [p9]; omega)
    simp only [stevedorelaw01_NumsBack.l0]
    rw [if_neg (by omega), nums_Put_at l hw (by omega), nums_Text_at s (by omega)]
    simp only [Option.bind_some]
    unfold textOf
    rw [if_pos (by rw [size_mk, size_mk, List.length_append, size_len]; omega), ba_append, if_pos (by rw [size_mk, List.length_append, List.length_append, size_len]; omega)]
    have e : (⟨(Put.putAll l ++ (digits s.size ++ s.data.toList)).toArray⟩ : ByteArray) ++ b = ⟨(Put.putAll (l.drop 0) ++ (digits s.size ++ s.data.toList) ++ b.data.toList).toArray⟩ := by
      rw [List.drop_zero, ← ba_append (Put.putAll l ++ (digits s.size ++ s.data.toList)) b.data.toList, ba_eta]
    rw [e]
    exact back_l1 l s b hw hall hl hs hb l.length k 0 (by omega) (by omega)
  | succ d ih =>
    intro k i hi hk hn
    obtain ⟨k, rfl⟩ : ∃ m, k = m + 1 := ⟨k - 1, by omega⟩
    simp only [stevedorelaw01_NumsBack.l0]
    rw [if_pos (by omega), if_pos (by omega)]
    by_cases h0 : rd l (i : Int) < 0
    · rw [if_pos h0, awake_at (by omega)]; rfl
    · rw [if_neg h0, wrap_id (x := (i : Int) + 1) (by omega) (by omega)]
      refine ih k (i + 1) (by omega) (by omega) (fun j hj => ?_)
      by_cases e : j = i
      · subst e; have : rd l (j : Int) = l.getD j 0 := rfl
        omega
      · exact hn j (by omega)
theorem NumsBack : stevedorelaw01_NumsBack.Pure := by
  intro l s b hm hl hw hs hb
  refine ⟨2 * l.length + 100, ?_⟩
  unfold stevedorelaw01_NumsBack.f
  exact back_l0 l s b hw (by omega) hs hb l.length _ 0 (by omega) (by omega) (fun j hj => by omega)
end Go.Proofs.Ytcdndnebmonlfaa.Pure
