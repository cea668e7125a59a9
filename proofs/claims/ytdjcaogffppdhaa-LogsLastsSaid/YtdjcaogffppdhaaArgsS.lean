/- A list of structs of whole numbers and bools among the arguments of a law. -/
import Derived.Test.YtdjcaogffppdhaaArgs
import Derived.Deep.Slices
import Derived.Deep.Fields
import Derived.ChangeSame
set_option linter.unusedVariables false
namespace Go.Proofs.Ytdjcaogffppdhaa.Args
open Go.RowKit Go.ChangeShapes Go.WideShapes Go.Deep Go.Proofs.Ytdjcaogffppdhaa.SumPure
section
variable {H : Type} {enc : TypeId × Value → H} {P : Program} {w : World} {base : Nat} {spare : Nat → Bool} {held : Bool}
theorem open_slice_fields {t e : TypeId} {fs : Array Field} {fuel : Nat} {cs : List Value} {x : DataW H × List MemPlace} (ht : P.underlying t = some (.slice e)) (he : P.underlying e = some (.struct fs))
    (hone : oneCellFields P fs = true) (hC : P.cellsOf e = fs.size) (h : DataW.trod enc P w base spare held fuel t cs = some x) :
    (cs = [.slice none 0 0] ∧ x = (.nil, [])) ∨
    ∃ (a : Addr) (len cap m : Nat), cs = [.slice (some a) len cap] ∧ base ≤ a.block ∧ len ≤ cap ∧ cap ≤ maxLen ∧ m = (if spare a.block then cap else len) ∧
      ∀ i, i < m → ∀ (j : Nat) (f : Field), fs[j]? = some f → ∃ (n : Nat) (v : Value) (y : DataW H × List MemPlace), w.cell? (a.add (i * fs.size + j)) = some v ∧ DataW.trod enc P w base spare held n f.type [v] = some y := by
  rcases open_slice ht h with h0 | ⟨a, len, cap, m, n, D, Pl, hcs, hb, hl, hm, hmm, hx, hi⟩
  · exact .inl h0
  · refine .inr ⟨a, len, cap, m, hcs, hb, hl, hm, hmm, fun i him => ?_⟩
    obtain ⟨cs', hc, ht'⟩ := hi i him
    rw [hC] at hc
    obtain ⟨ys, n', hn', hy, hlen, hyl, hf⟩ := DataW.trod_struct he ht'
    obtain ⟨_, hcl, hat⟩ := World.cells?_some hc
    intro j f hj
    obtain ⟨ho, hk⟩ := hone_of hone j f hj
    have hjl : j < fs.size := (Array.getElem?_eq_some_iff.1 hj).1
    have hcell := hat j hjl
    have hv : cs'[j]? = some (cs'[j]'(by omega)) := List.getElem?_eq_getElem (by omega)
    have h1 := hf j f hj
    rw [ho, hk] at h1
    have hone' : (cs'.drop j).take 1 = [cs'[j]'(by omega)] := by
      rw [List.drop_eq_getElem_cons (by omega)]
      rfl
    rw [hone'] at h1
    have hys : ys[j]? = some (ys[j]'(by omega)) := List.getElem?_eq_getElem (by omega)
    refine ⟨n', _, _, ?_, h1.trans hys⟩
    rw [← Go.Deep.add_add, hcell, hv]
end
/-- A list of structs of k whole numbers. -/
structure HasRows (w : World) (a : Option Addr) (len k : Nat) : Prop where
  le : len ≤ 9223372036854775807
  cell : 0 < len → ∃ x : Addr, a = some x ∧ x.block < w.heap.size ∧ ∀ i, i < len → ∀ j, j < k → ∃ z : Int, w.cell? (x.add (i * k + j)) = some (.int .i64 z) ∧ -9223372036854775808 ≤ z ∧ z ≤ 9223372036854775807
theorem HasRows.at {w : World} {a : Option Addr} {len k : Nat} (h : HasRows w a len k) {w' : World} (q : Below w.heap.size w w') {i : Nat} (hi : i < len) : ∃ x : Addr, a = some x ∧ ∀ j, j < k → ∃ z : Int, w'.cell? (x.add (i * k + j)) = some (.int .i64 z) ∧ -9223372036854775808 ≤ z ∧ z ≤ 9223372036854775807 := by
  obtain ⟨x, hx, hb, hc⟩ := h.cell (by omega)
  refine ⟨x, hx, fun j hj => ?_⟩
  obtain ⟨z, h1, h2⟩ := hc i hi j hj
  exact ⟨z, (q.cell (p := x.add (i * k + j)) (by unfold Addr.add; split <;> exact hb)).trans h1, h2⟩
theorem add_off (x : Addr) (n j : Nat) (h : j ≠ 0) : (⟨(x.add n).block, (x.add n).off + j, none⟩ : Addr) = x.add (n + j) := by
  unfold Addr.add
  by_cases hn : n = 0
  · simp [hn, h]
  · simp [hn, h, Nat.add_assoc]
theorem open_rows {H : Type} {enc : TypeId × Value → H} {P : Program} {W : World} {base : Nat} {held : Bool} {t e : TypeId} {fs : Array Field} {a : Option Addr} {len cap : Nat} {d : DataW H} {ps : List MemPlace}
    (hu : P.underlying t = some (.slice e)) (he : P.underlying e = some (.struct fs)) (hone : oneCellFields P fs = true) (hC : P.cellsOf e = fs.size) (hint : ∀ (j : Nat) (f : Field), fs[j]? = some f → P.underlying f.type = some (.int .i64)) (h0 : 0 < fs.size)
    (h : DataW.Trod enc P W base (fun _ => true) held t (.slice a len cap) d ps) : HasRows W a len fs.size := by
  obtain ⟨fuel, hf⟩ := h
  rcases open_slice_fields hu he hone hC hf with ⟨hcs, _⟩ | ⟨x, l, c, m, hcs, _, hl, hm, hz, hcell⟩
  · simp [Value.cells] at hcs
    obtain ⟨rfl, rfl, rfl⟩ := hcs
    exact ⟨by omega, fun h => absurd h (by omega)⟩
  · simp [Value.cells] at hcs
    obtain ⟨rfl, rfl, rfl⟩ := hcs
    simp only [if_true] at hz
    have hml : maxLen = 9223372036854775807 := rfl
    have key : ∀ i, i < len → ∀ j, j < fs.size → ∃ z : Int, W.cell? (x.add (i * fs.size + j)) = some (.int .i64 z) ∧ -9223372036854775808 ≤ z ∧ z ≤ 9223372036854775807 := fun i hi j hj => by
      have hfj : fs[j]? = some (fs[j]'hj) := Array.getElem?_eq_getElem hj
      obtain ⟨n, v, y, h1, h2⟩ := hcell i (by omega) j _ hfj
      obtain ⟨z, e0, rfl, hw⟩ := DataW.trod_int (hint j _ hfj) h2
      obtain rfl : v = .int .i64 z := by simpa using e0
      exact ⟨z, h1, wf64 hw⟩
    refine ⟨by omega, fun hlen => ⟨x, rfl, ?_, key⟩⟩
    obtain ⟨z, h1, _⟩ := key 0 hlen 0 h0
    have := block_lt_of_cell h1
    unfold Addr.add at this
    simpa using this
end Go.Proofs.Ytdjcaogffppdhaa.Args
