/- Lists of whole numbers among the arguments of a law: what a walk asks of them. -/
import Derived.SizedLaws
import Derived.ChangeSlices
import Derived.Laws.Rows
import Derived.Test.YtdjcaogffppdhaaSumPure
import Derived.Test.YtdjcaogffppdhaaWSized
set_option linter.unusedVariables false
namespace Go.Proofs.Ytdjcaogffppdhaa.Args
open Go.RowKit Go.ChangeShapes Go.WideShapes Go.Proofs.Ytdjcaogffppdhaa.SumPure
/-- A list of whole numbers among the arguments. -/
structure Has (w : World) (a : Option Addr) (len : Nat) (l : List Int) : Prop where
  len_eq : len = l.length
  le : len ≤ 17592186044416
  cell : 0 < len → ∃ x : Addr, a = some x ∧ x.block < w.heap.size ∧ ∀ j, j < len → w.cell? (x.add j) = some (.int .i64 (l.getD j 0))
  wf : ∀ x ∈ l, (Lit.int .i64 x).wf = true
theorem Has.at {w : World} {a : Option Addr} {len : Nat} {l : List Int} (h : Has w a len l) {w' : World} (k : Below w.heap.size w w') {j : Nat} (hj : j < len) : ∃ x : Addr, a = some x ∧ w'.cell? (x.add j) = some (.int .i64 (l.getD j 0)) ∧ -9223372036854775808 ≤ l.getD j 0 ∧ l.getD j 0 ≤ 9223372036854775807 := by
  obtain ⟨x, hx, hb, hc⟩ := h.cell (by omega)
  refine ⟨x, hx, (k.cell (p := x.add j) (by unfold Addr.add; split <;> exact hb)).trans (hc j hj), ?_⟩
  have hl := h.len_eq
  have hm : l.getD j 0 ∈ l := by
    rw [List.getD_eq_getElem?_getD, List.getElem?_eq_getElem (by omega)]
    exact List.getElem_mem _
  exact wf64 (h.wf _ hm)
theorem open_has {H : Type} {enc : TypeId × Value → H} {P : Program} {W : World} {base : Nat} {held : Bool} {t e : TypeId} {a : Option Addr} {len cap : Nat} {d : DataW H} {ps : List MemPlace} {ts : List TypeId} {ds : List (DataW H)} {j : Nat}
    (hsz : (DataW.weightsEach P ts ds).all (· ≤ reachBytes) = true) (ht : ts[j]? = some t) (hd : ds[j]? = some d) (hu : P.underlying t = some (.slice e)) (he : P.underlying e = some (.int .i64)) (hc : P.cellsOf e = 1) (hB : P.bytesOf e = 8)
    (h : DataW.Trod enc P W base (fun _ => true) held t (.slice a len cap) d ps) : ∃ l : List Int, Has W a len l := by
  have y : len * 8 ≤ 140737488351232 := Go.Proofs.YtdjcaogffppdhaaW.PrintWords.sized_ints hsz ht hd hu he hc hB h
  obtain ⟨fuel, hf⟩ := h
  rcases open_ints hu he hc hf with ⟨hcs, _⟩ | ⟨x, l, c, zs, hcs, _, hl, hm, hz, _, hcell, hwz⟩
  · simp [Value.cells] at hcs
    obtain ⟨rfl, rfl, rfl⟩ := hcs
    exact ⟨[], rfl, by omega, fun h => absurd h (by omega), fun x hx => by cases hx⟩
  · simp [Value.cells] at hcs
    obtain ⟨rfl, rfl, rfl⟩ := hcs
    simp only [if_true] at hz
    refine ⟨zs.take len, by simp; omega, by omega, fun h0 => ⟨x, rfl, ?_, fun j hj => ?_⟩, fun n hn => hwz n (List.mem_of_mem_take hn)⟩
    · have := block_lt_of_cell (hcell 0 (by omega))
      unfold Addr.add at this
      simpa using this
    · rw [hcell j (by omega)]
      simp [List.getD_eq_getElem?_getD, hj]
end Go.Proofs.Ytdjcaogffppdhaa.Args
