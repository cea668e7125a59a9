/- The statement NumsThere of the program's layer 1, over the functions that the printed texts tell. -/
import Derived.Test.YtcdndnebmonlfaaNumsAwake
set_option linter.unusedVariables false
namespace Go.Proofs.Ytcdndnebmonlfaa.Pure
open Go.RowKit Go.Proofs.Ytcdndnebmonlfaa.Print Go.Proofs.Ytcdndnebmonlfaa.NumsPure Go.Proofs.YtcdndnebmonlfaaW.PrintWords Go.Proofs.YtcdndnebmonlfaaW.PrintLast Go.Proofs.YtcdndnebmonlfaaW.PrintMore
open Go.Proofs.Ytcdndnebmonlfaa.Put (digits digits_lt digits_ge)
theorem NumsThere : stevedorelaw01_NumsThere.Pure := by
  intro s hs
  refine ⟨100, ?_⟩
  unfold stevedorelaw01_NumsThere.f
  have hj : ∀ x3 x4 x5, (x5 = 0 ∨ (x3 = 0 ∧ x4 = (⟨#[]⟩ : ByteArray))) → stevedorelaw01_NumsThere.j0 100 s x3 x4 x5 false = some true := by
    intro x3 x4 x5 h
    simp only [stevedorelaw01_NumsThere.j0]
    rw [if_neg (by decide), nums_TakeText_at s (by omega) (by omega)]
    rw [awake_at (by omega)]
    have hx : (if x5 = 0 then some true else if x3 = 0 then if x4.toList = ([] : List UInt8) then some true else some false else some false) = some true := by
      by_cases h5 : x5 = 0
      · rw [if_pos h5]
      · rcases h with h | ⟨h, h'⟩
        · exact absurd h h5
        · rw [if_neg h5, if_pos h, if_pos (by rw [h']; simp [ByteArray.toList_eq])]
    have he : ((⟨#[]⟩ : ByteArray).toList = ([] : List UInt8)) = True := by simp [ByteArray.toList_eq]
    have hz : (if x5 = 0 then (if (⟨#[]⟩ : ByteArray).toList = ([] : List UInt8) then (if (⟨#[]⟩ : ByteArray).toList = ([] : List UInt8) then some true else some false) else some false) else (if x3 = 0 then (if x4.toList = ([] : List UInt8) then (if (⟨#[]⟩ : ByteArray).toList = ([] : List UInt8) then (if (⟨#[]⟩ : ByteArray).toList = ([] : List UInt8) then some true else some false) else some false) else some false) else some false)) = some true := by
      simp only [he, if_true]
      exact hx
    have hq : textA (T true 9 s.data.toList) = ((⟨#[]⟩ : ByteArray), (⟨#[]⟩ : ByteArray), 44) ∨ ∃ n r, T true 9 s.data.toList = some (n, r) ∧ n ≤ r.length ∧ textA (T true 9 s.data.toList) = (⟨(r.take n).toArray⟩, ⟨(r.drop n).toArray⟩, 0) := by
      cases hT : T true 9 s.data.toList with
      | none => exact .inl rfl
      | some p =>
        obtain ⟨n, r⟩ := p
        by_cases hn : r.length < n
        · left; simp only [textA]; rw [if_pos hn]
        · right; exact ⟨n, r, rfl, by omega, by simp only [textA]; rw [if_neg hn]⟩
    rcases hq with hq | ⟨n, r, hT, hn, hq⟩
    · rw [hq]
      exact hz
    · rw [hq]
      obtain ⟨hl, _⟩ := digits_T 9 true _ r n hT
      have hlen := congrArg List.length hl
      rw [size_len, List.length_append] at hlen
      simp only [Option.bind_some, if_true]
      rw [nums_Text_at _ (by rw [size_mk, List.length_take]; omega)]
      simp only [Option.bind_some]
      have hto : textOf ⟨(r.take n).toArray⟩ = ⟨(digits n ++ r.take n).toArray⟩ := by
        unfold textOf
        rw [size_mk, List.length_take, Nat.min_eq_left (by omega)]
      rw [hto, if_pos (by rw [size_mk, size_mk, List.length_append, List.length_take, List.length_drop]; omega), ba_append, List.append_assoc, List.take_append_drop, ← hl, ba_eta, if_pos rfl]
      exact hx
  rw [nums_Take_at s (by omega) (by omega)]
  cases hT : T true 9 s.data.toList with
  | none => exact hj 0 (⟨#[]⟩ : ByteArray) 44 (.inr ⟨rfl, rfl⟩)
  | some p =>
    obtain ⟨n, r⟩ := p
    obtain ⟨hl, _⟩ := digits_T 9 true _ r n hT
    have hlt := T_lt hT
    rw [p9] at hlt
    have hlen := congrArg List.length hl
    rw [size_len, List.length_append] at hlen
    show (if (0 : Int) = 0 then (if (n : Int) < 0 then stevedorelaw01_NumsThere.j0 100 s (n : Int) ⟨r.toArray⟩ 0 true else ((nums_Put.f [(n : Int)]).bind fun t177 => if t177.size + ByteArray.size ⟨r.toArray⟩ ≤ 9223372036854775807 then stevedorelaw01_NumsThere.j0 100 s (n : Int) ⟨r.toArray⟩ 0 ((t177 ++ ⟨r.toArray⟩).toList != s.toList) else none)) else stevedorelaw01_NumsThere.j0 100 s (n : Int) ⟨r.toArray⟩ 0 false) = some true
    rw [if_pos rfl, if_neg (by omega), nums_Put_at _ (by intro x hx; simp at hx; subst hx; simp only [Lit.wf, IntKind.min, IntKind.max, IntKind.signed, IntKind.bits, Bool.and_eq_true, decide_eq_true_eq, if_true]; omega) (by simp), putAll_one]
    simp only [Option.bind_some]
    rw [show ((n : Int)).toNat = n from by omega, if_pos (by rw [size_mk, size_mk]; omega), ba_append, ← hl, ba_eta]
    rw [show (s.toList != s.toList) = false from by simp]
    exact hj _ _ _ (.inl rfl)
end Go.Proofs.Ytcdndnebmonlfaa.Pure
