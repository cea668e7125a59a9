/- A slice of strings among the arguments, as the printed texts' calls take it up; a struct of a number and a string. -/
import Derived.SizedLaws
import Derived.SliceStrings
import Derived.Lib.SmallJoins
import Derived.Test.YtojehachhfcfaaaWWords
import Derived.Test.YtojehachhfcfaaaWMore
import Derived.Test.YtojehachhfcfaaaWLast
set_option linter.unusedVariables false
namespace Go.Proofs.Ytojehachhfcfaaa.StrRow
open Go.RowKit Go.ChangeShapes Go.WideShapes Go.Joins Go.Deep Go.Proofs.YtojehachhfcfaaaW.PrintWords
theorem open_strs {H : Type} {enc : TypeId × Value → H} {P : Program} {W : World} {base : Nat} {held : Bool} {t e : TypeId} {a : Option Addr} {len cap : Nat} {d : DataW H} {ps : List MemPlace} {ts : List TypeId} {ds : List (DataW H)} {j : Nat}
    (hsz : (DataW.weightsEach P ts ds).all (· ≤ reachBytes) = true) (ht : ts[j]? = some t) (hd : ds[j]? = some d) (hu : P.underlying t = some (.slice e)) (he : P.underlying e = some .string) (hc : P.cellsOf e = 1) (hB : P.bytesOf e = 16)
    (h : DataW.Trod enc P W base (fun _ => true) held t (.slice a len cap) d ps) :
    ∃ l : List ByteArray, len = l.length ∧ Kd.C Kd.string W a l.length l ∧ l.length ≤ cap ∧ l.length * 16 ≤ 140737488351232 := by
  obtain ⟨fuel, hf⟩ := h
  rcases open_strings hu he hc hf with ⟨hcs, hx⟩ | ⟨x, len', cap', ss, hcs, _, hl, hm, hz, hx, hcell, _⟩
  · simp [Value.cells] at hcs
    obtain ⟨rfl, rfl, rfl⟩ := hcs
    exact ⟨[], rfl, Kd.C_of_reads (d := ByteArray.empty) (h1 := fun _ => rfl) ⟨rfl, by simp, fun h => absurd h (by simp)⟩, Nat.zero_le _, by simp⟩
  · simp [Value.cells] at hcs
    obtain ⟨rfl, rfl, rfl⟩ := hcs
    obtain ⟨hx, _⟩ := Prod.mk.inj hx
    subst hx
    simp only [if_true] at hz
    have z := sized_slice hsz ht hd hu
    rw [hB] at z
    have hr : reachBytes = 140737488351232 := rfl
    have h1 : (strs (H := H) (ss.take len)).length + (strs (H := H) (ss.drop len)).length = ss.length := by
      simp [strs]; omega
    rw [h1, hr] at z
    have e : (ss.take len).length = len := by simp; omega
    have hm' : len ≤ 9223372036854775807 := by have : maxLen = 9223372036854775807 := rfl; omega
    refine ⟨ss.take len, e.symm, Kd.C_of_reads (d := ByteArray.empty) (h1 := fun _ => rfl) ⟨rfl, by rw [e]; exact hm', fun _ => ⟨x, rfl, fun j hj => ?_⟩⟩, by rw [e]; exact hl, by rw [e]; omega⟩
    rw [e] at hj
    rw [hcell j (by omega)]
    simp [List.getD, hj]
/-- A struct of a number and a string, by value. -/
theorem open_is {H : Type} {enc : TypeId × Value → H} {P : Program} {W : World} {base b0 : Nat} {r : Reach} {held : Bool} {t : TypeId} {f0 f1 : Field} {v : Value} {d : DataW H} {ps : List MemPlace} {ts : List TypeId} {ds : List (DataW H)} {j : Nat}
    (hsz : (DataW.weightsEach P ts ds).all (· ≤ reachBytes) = true) (ht : ts[j]? = some t) (hd : ds[j]? = some d)
    (hs : P.underlying t = some (.struct #[f0, f1])) (hone : oneCellFields P #[f0, f1] = true) (hC : P.cellsOf t = 2) (u0 : P.underlying f0.type = some (.int .i64)) (u1 : P.underlying f1.type = some .string)
    (hv : Value.okWide P W r b0 t v) (h : DataW.Trod enc P W base (fun _ => true) held t v d ps) :
    ∃ (n : Int) (s : ByteArray), v = .agg #[.int .i64 n, .string s] ∧ s.size ≤ 140737488351232 := by
  obtain ⟨v0, v1, y0, y1, n, rfl, rfl, rfl, h0, h1⟩ := open_agg2 hs hone hC hv h
  obtain ⟨x, e0, rfl, _⟩ := DataW.trod_int u0 h0
  obtain ⟨s, e1, rfl, _⟩ := DataW.trod_string u1 h1
  obtain rfl : v0 = .int .i64 x := by simpa using e0
  obtain rfl : v1 = .string s := by simpa using e1
  refine ⟨x, s, rfl, ?_⟩
  have z := List.all_eq_true.1 hsz _ (DataW.weights_mem_each ht hd s.data.toList.length (by simp [DataW.weights, hs, DataW.weightsEach]))
  have hr : reachBytes = 140737488351232 := rfl
  rw [decide_eq_true_eq, hr, data_length] at z
  exact z
end Go.Proofs.Ytojehachhfcfaaa.StrRow
