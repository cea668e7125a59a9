/- sameCmd of equal commands. Printed by csamecmd.py. -/
import Derived.Test.YtgdoodeibcfcjaaGreatCSameH
import Derived.Deep.QuietTactic
import Derived.BigQuiet
set_option linter.unusedVariables false
set_option linter.unusedSimpArgs false
namespace Go.Proofs.YtgdoodeibcfcjaaGreat.Wire
open Go.RowKit Go.Proofs.YtgdoodeibcfcjaaGreat.NumsPure Go.Proofs.YtgdoodeibcfcjaaGreat.CPure Go.Proofs.YtgdoodeibcfcjaaGreat.Own
theorem RowA.one {w : World} {A : Option Addr} {k : K} {c : Nat} {rows : List (List Value)} (h : RowA w A 1 [k] c rows) {i : Nat} (hi : i < rows.length) : ∃ a v, A = some a ∧ IsK k v ∧ w.cell? (a.add i) = some v := by
  obtain ⟨a, rfl, hb, hc⟩ := h.at_ (by omega)
  have hx : rows[i]? = some rows[i] := List.getElem?_eq_getElem hi
  obtain ⟨v, r, e, hk, hr⟩ := h.fits _ (List.mem_of_getElem? hx)
  obtain rfl : r = [] := hr
  have := hc i _ hx 0 v (by rw [e]; rfl)
  rw [Nat.mul_one, Nat.add_zero] at this
  exact ⟨a, v, rfl, hk, this⟩
theorem RowA.both {w : World} {A B : Option Addr} {k : K} {c d : Nat} {rows : List (List Value)} (h : RowA w A 1 [k] c rows) (h' : RowA w B 1 [k] d rows) {i : Nat} (hi : i < rows.length) : ∃ a b v, A = some a ∧ B = some b ∧ IsK k v ∧ w.cell? (a.add i) = some v ∧ w.cell? (b.add i) = some v := by
  obtain ⟨a, rfl, hb, hc⟩ := h.at_ (by omega)
  obtain ⟨b, rfl, hb', hc'⟩ := h'.at_ (by omega)
  have hx : rows[i]? = some rows[i] := List.getElem?_eq_getElem hi
  obtain ⟨v, r, e, hk, hr⟩ := h.fits _ (List.mem_of_getElem? hx)
  have h1 := hc i _ hx 0 v (by rw [e]; rfl)
  have h2 := hc' i _ hx 0 v (by rw [e]; rfl)
  rw [Nat.mul_one, Nat.add_zero] at h1 h2
  exact ⟨a, b, v, rfl, rfl, hk, h1, h2⟩
end Go.Proofs.YtgdoodeibcfcjaaGreat.Wire
