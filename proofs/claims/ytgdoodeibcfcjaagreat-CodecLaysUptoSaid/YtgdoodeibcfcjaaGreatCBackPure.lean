/- What was written is read again: a house, a command. -/
import Derived.Test.YtgdoodeibcfcjaaGreatCTherePure
set_option linter.unusedVariables false
set_option linter.unusedSimpArgs false
namespace Go.Proofs.YtgdoodeibcfcjaaGreat.Wire
open Go.RowKit Go.Proofs.YtgdoodeibcfcjaaGreat.NumsPure Go.Proofs.YtgdoodeibcfcjaaGreat.CPure
open Go.Proofs.YtgdoodeibcfcjaaGreat.Put (digits digits_lt digits_ge)
theorem ksJ_ne : ∀ j, j < 14 → ksJ j ≠ [] := by
  intro j hj
  have : j = 0 ∨ j = 1 ∨ j = 2 ∨ j = 3 ∨ j = 4 ∨ j = 5 ∨ j = 6 ∨ j = 7 ∨ j = 8 ∨ j = 9 ∨ j = 10 ∨ j = 11 ∨ j = 12 ∨ j = 13 := by omega
  rcases this with rfl | rfl | rfl | rfl | rfl | rfl | rfl | rfl | rfl | rfl | rfl | rfl | rfl | rfl <;> exact List.cons_ne_nil _ _
/-- What a house's lists must be, that their bytes are read again. -/
structure Backs (R : Nat → List (List Value)) : Prop where
  fits : ∀ j, j < 14 → ∀ x ∈ R j, Fits (ksJ j) x
  short : ∀ j, j < 14 → ∀ x ∈ R j, ∀ v ∈ x, Short v
  few : ∀ j, j < 14 → (R j).length < 9223372036854775808
theorem stH_back {R : Nat → List (List Value)} (h : Backs R) : ∀ j, j ≤ 14 → ∀ rest, stH ⟨encTo R j ++ rest, false⟩ j = ⟨rest, false⟩ ∧ ∀ i, i < j → (rdList (ksJ i) (stH ⟨encTo R j ++ rest, false⟩ i)).2 = (R i).map (·.map clampV)
  | 0, _, rest => ⟨rfl, fun i hi => absurd hi (by omega)⟩
  | j + 1, hj, rest => by
    have e : encTo R (j + 1) ++ rest = encTo R j ++ (encRows (R j) ++ rest) := by simp only [encTo, List.append_assoc]
    rw [e]
    obtain ⟨h1, h2⟩ := stH_back h j (by omega) (encRows (R j) ++ rest)
    have hb := list_back (ksJ j) (ksJ_ne j (by omega)) (R j) rest (h.fits j (by omega)) (h.short j (by omega)) (h.few j (by omega))
    refine ⟨?_, fun i hi => ?_⟩
    · show (rdList (ksJ j) (stH _ j)).1 = _
      rw [h1, hb]
    · by_cases q : i = j
      · subst q
        rw [h1, hb]
      · exact h2 i (by omega)
theorem take_back (n : Nat) (h : n < 9223372036854775808) (rest : List UInt8) : takeN ⟨digits n ++ rest, false⟩ = (n, ⟨rest, false⟩) := by
  unfold takeN
  rw [if_neg (by simp), T9 n h rest]
theorem house_back {R : Nat → List (List Value)} (h : Backs R) (z : Int) : endN (hS (encHouse R z)) = 0 ∧ (∀ j, j < 14 → hR (encHouse R z) j = (R j).map (·.map clampV)) ∧ hZ (encHouse R z) = clampN z := by
  rw [encHouse_eq]
  obtain ⟨h1, h2⟩ := stH_back h 14 (Nat.le_refl _) (digits (foldN z))
  have ht : takeN (stH ⟨encTo R 14 ++ digits (foldN z), false⟩ 14) = (foldN z, ⟨[], false⟩) := by
    rw [h1]
    have := take_back (foldN z) (foldN_lt z) []
    rwa [List.append_nil] at this
  have e15 : hS (encTo R 14 ++ digits (foldN z)) = ⟨[], false⟩ := by unfold hS; rw [st_house_15_eq, stH_14, ht]
  have he : endN (hS (encTo R 14 ++ digits (foldN z))) = 0 := by rw [e15]; rfl
  refine ⟨he, fun j hj => ?_, ?_⟩
  · unfold hR
    rw [if_pos he]
    exact h2 j hj
  · unfold hZ
    rw [if_pos he, ht]
    exact unfold_fold z
theorem cmd_back {T I : List (List Value)} {op : Int} (fT : ∀ x ∈ T, Fits ks_str x) (fI : ∀ x ∈ I, Fits ks_int x) (sT : ∀ x ∈ T, ∀ v ∈ x, Short v) (sI : ∀ x ∈ I, ∀ v ∈ x, Short v) (lT : T.length < 9223372036854775808) (lI : I.length < 9223372036854775808) :
    endN (cmdS (enc_cmd T I op)) = 0 ∧ cmdT (enc_cmd T I op) = T.map (·.map clampV) ∧ cmdI (enc_cmd T I op) = I.map (·.map clampV) ∧ cmdN (enc_cmd T I op) = clampN op := by
  have t0 : takeN (st_cmd_0 ⟨enc_cmd T I op, false⟩) = (foldN op, ⟨encRows T ++ encRows I, false⟩) := by
    rw [st_cmd_0_eq]
    exact take_back (foldN op) (foldN_lt op) _
  have t1 : st_cmd_1 ⟨enc_cmd T I op, false⟩ = ⟨encRows T ++ encRows I, false⟩ := by rw [st_cmd_1_eq, t0]
  have b1 := list_back ks_str (List.cons_ne_nil _ _) T (encRows I) fT sT lT
  have t2 : st_cmd_2 ⟨enc_cmd T I op, false⟩ = ⟨encRows I, false⟩ := by rw [st_cmd_2_eq, t1, b1]
  have b2 := list_back ks_int (List.cons_ne_nil _ _) I [] fI sI lI
  rw [List.append_nil] at b2
  have t3 : cmdS (enc_cmd T I op) = ⟨[], false⟩ := by unfold cmdS; rw [st_cmd_3_eq, t2, b2]
  have he : endN (cmdS (enc_cmd T I op)) = 0 := by rw [t3]; rfl
  refine ⟨he, ?_, ?_, ?_⟩
  · unfold cmdT; rw [if_pos he, t1, b1]
  · unfold cmdI; rw [if_pos he, t2, b2]
  · unfold cmdN; rw [if_pos he, t0]; exact unfold_fold op
end Go.Proofs.YtgdoodeibcfcjaaGreat.Wire
