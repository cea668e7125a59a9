/- What was read of bytes is written as these bytes; what the chapter's examples are read and written as. -/
import Derived.Test.YtgdoodeibcfcjaaGreatCMain
set_option linter.unusedVariables false
set_option linter.unusedSimpArgs false
namespace Go.Proofs.YtgdoodeibcfcjaaGreat.Wire
open Go.RowKit Go.Proofs.YtgdoodeibcfcjaaGreat.NumsPure Go.Proofs.YtgdoodeibcfcjaaGreat.CPure
open Go.Proofs.YtgdoodeibcfcjaaGreat.Put (digits digits_lt digits_ge)
/-! ### The codec's three answers -/
theorem endN_cases (s : Rd) : endN s = 44 ∨ endN s = 0 ∨ endN s = 45 := by
  unfold endN
  split
  · exact .inl rfl
  · split
    · exact .inr (.inl rfl)
    · exact .inr (.inr rfl)
theorem endN_zero {s : Rd} (h : endN s = 0) : s.bad = false ∧ s.D = [] := by
  unfold endN at h
  split at h
  · cases h
  · rename_i hb
    split at h
    · rename_i hd; exact ⟨by simpa using hb, hd⟩
    · cases h
/-! ### There -/
def encTo (R : Nat → List (List Value)) : Nat → List UInt8
  | 0 => []
  | j + 1 => encTo R j ++ encRows (R j)
theorem encHouse_eq (R : Nat → List (List Value)) (z : Int) : encHouse R z = encTo R 14 ++ digits (foldN z) := by
  simp only [encHouse, enc_house, encTo, List.nil_append, List.append_assoc]
theorem stH_there (s : Rd) : ∀ j, (stH s j).bad = false → s.bad = false ∧ s.D = encTo (fun i => (rdList (ksJ i) (stH s i)).2) j ++ (stH s j).D
  | 0, h => ⟨h, rfl⟩
  | j + 1, h => by
    obtain ⟨h1, h2⟩ := list_there (ksJ j) (stH s j) h
    obtain ⟨h3, h4⟩ := stH_there s j h1
    refine ⟨h3, ?_⟩
    show s.D = (encTo _ j ++ encRows _) ++ (stH s (j + 1)).D
    rw [List.append_assoc]
    refine h4.trans ?_
    congr 1
theorem house_there (D : List UInt8) (h : endN (hS D) = 0) : encHouse (hR D) (hZ D) = D := by
  have hR' : hR D = fun i => (rdList (ksJ i) (stH ⟨D, false⟩ i)).2 := funext fun j => by unfold hR; rw [if_pos h]
  have hZ' : hZ D = unfoldN (takeN (stH ⟨D, false⟩ 14)).1 := by unfold hZ; rw [if_pos h]
  obtain ⟨h1, h2⟩ := endN_zero h
  have e15 : hS D = (takeN (stH ⟨D, false⟩ 14)).2 := by unfold hS; rw [st_house_15_eq, stH_14]
  rw [e15] at h1 h2
  obtain ⟨h3, h4, h5⟩ := take_there _ h1
  obtain ⟨h6, h7⟩ := stH_there ⟨D, false⟩ 14 h3
  rw [encHouse_eq, hR', hZ', fold_unfold h5]
  rw [h2, List.append_nil] at h4
  rw [h4] at h7
  exact h7.symm
theorem cmd_there (D : List UInt8) (h : endN (cmdS D) = 0) : enc_cmd (cmdT D) (cmdI D) (cmdN D) = D := by
  have e1 : cmdT D = (rdList ks_str (st_cmd_1 ⟨D, false⟩)).2 := by unfold cmdT; rw [if_pos h]
  have e2 : cmdI D = (rdList ks_int (st_cmd_2 ⟨D, false⟩)).2 := by unfold cmdI; rw [if_pos h]
  have e3 : cmdN D = unfoldN (takeN ⟨D, false⟩).1 := by unfold cmdN; rw [if_pos h, st_cmd_0_eq]
  obtain ⟨h1, h2⟩ := endN_zero h
  unfold cmdS at h1 h2
  rw [st_cmd_3_eq] at h1 h2
  obtain ⟨h3, h4⟩ := list_there _ _ h1
  rw [st_cmd_2_eq] at h3
  obtain ⟨h5, h6⟩ := list_there _ _ h3
  rw [st_cmd_1_eq, st_cmd_0_eq] at h5
  obtain ⟨h7, h8, h9⟩ := take_there _ h5
  rw [e1, e2, e3]
  unfold enc_cmd
  rw [fold_unfold h9]
  rw [h2, List.append_nil] at h4
  rw [← st_cmd_2_eq, h4] at h6
  rw [← st_cmd_0_eq ⟨D, false⟩, ← st_cmd_1_eq, h6] at h8
  simp only [st_cmd_0_eq] at h8
  exact h8.symm
/-! ### The chapter's examples -/
theorem T_zero (r : List UInt8) : T true 9 (0 :: r) = some (0, r) := by
  have h := T9 0 (by decide) r
  rw [show digits 0 = [0] from by rw [digits_lt (by decide)]; rfl] at h
  exact h
theorem T_nil : T true 9 [] = none := rfl
theorem take_zero (r : List UInt8) : takeN ⟨0 :: r, false⟩ = (0, ⟨r, false⟩) := by
  unfold takeN
  simp only [Bool.false_eq_true, if_false, T_zero]
theorem list_zero (ks : List K) (r : List UInt8) : rdList ks ⟨0 :: r, false⟩ = (⟨r, false⟩, []) := by
  unfold rdList counted
  rw [take_zero]
  simp only [Nat.not_lt_zero, if_false]
  rfl
theorem stH_zero (n : Nat) : ∀ j, j ≤ n → stH ⟨List.replicate n 0, false⟩ j = ⟨List.replicate (n - j) 0, false⟩
  | 0, h => rfl
  | j + 1, h => by
    show (rdList (ksJ j) (stH _ j)).1 = _
    rw [stH_zero n j (by omega), show n - j = (n - (j + 1)) + 1 from by omega, List.replicate_succ, list_zero]
theorem end_14 : endN (hS (List.replicate 14 0)) = 44 := by
  unfold hS
  rw [st_house_15_eq, stH_14, stH_zero 14 14 (by omega)]
  rfl
theorem hS_15 : hS (List.replicate 15 0) = ⟨[], false⟩ := by
  unfold hS
  rw [st_house_15_eq, stH_14, stH_zero 15 14 (by omega)]
  show (takeN ⟨[0], false⟩).2 = _
  rw [take_zero]
theorem end_15 : endN (hS (List.replicate 15 0)) = 0 := by rw [hS_15]; rfl
theorem end_16 : endN (hS (List.replicate 16 0)) = 45 := by
  unfold hS
  rw [st_house_15_eq, stH_14, stH_zero 16 14 (by omega)]
  show endN (takeN ⟨[0, 0], false⟩).2 = _
  rw [take_zero]
  rfl
theorem hZ_15 : hZ (List.replicate 15 0) = 0 := by
  unfold hZ
  rw [if_pos end_15, stH_zero 15 14 (by omega)]
  show unfoldN (takeN ⟨[0], false⟩).1 = 0
  rw [take_zero]
  rfl
theorem hR_15 : ∀ j, j < 14 → hR (List.replicate 15 0) j = [] := fun j hj => by
  unfold hR
  rw [if_pos end_15, stH_zero 15 j (by omega), show 15 - j = (14 - j) + 1 from by omega, List.replicate_succ, list_zero]
theorem enc_nil : encHouse (fun _ => []) 0 = List.replicate 15 0 := by
  rw [encHouse_eq]
  have e : encRows [] = [0] := by unfold encRows; rw [show digits ([] : List (List Value)).length = [0] from by rw [digits_lt (by decide)]; rfl]; rfl
  have e2 : digits (foldN 0) = [0] := by rw [show foldN 0 = 0 from rfl, digits_lt (by decide)]; rfl
  rw [e2]
  simp only [encTo, e]
  rfl
theorem enc_ex : enc_cmd [[.string ⟨#[97]⟩]] [[.int .i64 (-1)]] 3 = [6, 1, 1, 97, 1, 1] := by
  have e1 : digits (foldN 3) = [6] := by rw [show foldN 3 = 6 from rfl, digits_lt (by decide)]; rfl
  have e2 : digits 1 = [1] := by rw [digits_lt (by decide)]; rfl
  have e3 : foldN (-1) = 1 := rfl
  unfold enc_cmd encRows
  simp only [List.length_cons, List.length_nil, List.flatMap_cons, List.flatMap_nil, encs, encV, textB, e1, e2, e3, Nat.zero_add, Nat.reduceAdd]
  rw [show (⟨#[97]⟩ : ByteArray).size = 1 from rfl, e2]
  rfl
end Go.Proofs.YtgdoodeibcfcjaaGreat.Wire
