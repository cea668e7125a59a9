/- Maps with whole numbers as keys, as functions of these numbers. -/
import Derived.Test.YtdjcaogffppdhaaProg
import Derived.WalkKit
import Derived.Maps.OwnOps
import Derived.Maps.OwnSet
import Derived.Maps.Views
set_option linter.unusedVariables false
set_option linter.unusedSimpArgs false
namespace Go.Proofs.Ytdjcaogffppdhaa.IMap
open Go.RowKit Go.ChangeMaps
open Go.Maps (Keyed)

abbrev D0 := DataW Unit
def key (i : Int) : Lit := .int .i64 i
/-- D reads, at each whole number, as F tells. -/
def Reads (D : D0) (F : Int → Option D0) : Prop := Maps.IsMap D ∧ ∀ i, (key i).wf = true → Maps.has D (key i) = (F i).isSome ∧ ∀ z, D.atKey (key i) z = (F i).getD z
theorem Reads.nil : Reads (.map []) (fun _ => none) := ⟨Maps.isMap_empty, fun i _ => ⟨rfl, fun z => rfl⟩⟩
theorem isKey (i : Int) : WideAt.IsKeyLit (key i) := by
  first | exact trivial | exact ⟨_, _, rfl⟩ | simp [WideAt.IsKeyLit, key]
theorem key_ne {i j : Int} (h : i ≠ j) : key i ≠ key j := by unfold key; intro e; cases e; exact h rfl
theorem Reads.put {D : D0} {F : Int → Option D0} (h : Reads D F) (i : Int) (d : D0) : Reads (D.put (key i) d) (fun j => if j = i then some d else F j) := by
  refine ⟨h.1.put _ _, fun j hj => ?_⟩
  by_cases e : j = i
  · subst e
    simp only [if_pos rfl]
    exact ⟨Maps.has_put_same h.1 (isKey _) d, fun z => Maps.atKey_put_same h.1 (isKey _) d z⟩
  · simp only [if_neg e]
    obtain ⟨a, b⟩ := h.2 j hj
    exact ⟨(Maps.has_put_other (key_ne e) d).trans a, fun z => (Maps.atKey_put_other (key_ne e) d z).trans (b z)⟩
theorem Reads.del {D : D0} {F : Int → Option D0} (h : Reads D F) (i : Int) : Reads (D.del (key i)) (fun j => if j = i then none else F j) := by
  refine ⟨h.1.del _, fun j hj => ?_⟩
  by_cases e : j = i
  · subst e
    simp only [if_pos rfl]
    exact ⟨Maps.has_del_same, fun z => Maps.atKey_del_same z⟩
  · simp only [if_neg e]
    obtain ⟨a, b⟩ := h.2 j hj
    exact ⟨(Maps.has_del_other (key_ne e)).trans a, fun z => (Maps.atKey_del_other (key_ne e) z).trans (b z)⟩
theorem Reads.ext {D : D0} {F G : Int → Option D0} (h : Reads D F) (e : ∀ i, F i = G i) : Reads D G := by
  have : F = G := funext e
  rw [← this]; exact h
/-- Block b is a map of at most n entries, from whole numbers on; F: its entries, as data. -/
def IMap (w : World) (P : Program) (k : TypeId) (R : Value → Option (D0 × List MemPlace)) (b n : Nat) (F : Int → Option D0) : Prop := ∃ D, w.ownsMap P k R b n D ∧ Reads D F
section
variable {w w' : World} {P : Program} {k : TypeId} {R : Value → Option (D0 × List MemPlace)} {b n : Nat} {F : Int → Option D0}
theorem IMap.made (w : World) (P : Program) (k : TypeId) (R : Value → Option (D0 × List MemPlace)) : IMap (w.alloc (.map #[] 0)) P k R w.heap.size 0 (fun _ => none) := ⟨_, World.ownsMap_made w P k R, Reads.nil⟩
theorem IMap.lt (h : IMap w P k R b n F) : b < w.heap.size := by obtain ⟨D, h, _⟩ := h; exact h.lt
theorem IMap.same (h : IMap w P k R b n F) (e : w'.heap[b]? = w.heap[b]?) : IMap w' P k R b n F := by
  obtain ⟨D, ⟨es, clock, hb, r⟩, hD⟩ := h
  exact ⟨D, ⟨es, clock, e.trans hb, r⟩, hD⟩
theorem IMap.mono (h : IMap w P k R b n F) {n' : Nat} (hn : n ≤ n') : IMap w P k R b n' F := by obtain ⟨D, h, r⟩ := h; exact ⟨D, h.mono hn, r⟩
/-- What stands in such a map isn't cells. -/
theorem IMap.is (h : IMap w P k R b n F) : ∃ es c, w.heap[b]? = some (.map es c) := by obtain ⟨D, ⟨es, clock, hb, _⟩, _⟩ := h; exact ⟨es, clock, hb⟩
theorem IMap.lookup {t e : TypeId} (h : IMap w P k R b n F) (hk : P.underlying k = some (.int .i64)) (ht : P.underlying t = some (.map k e)) {z : Value} (hz : (zeroValue e).run P w = .ok z w) {zd : D0} {zp : List MemPlace} (hzd : R z = some (zd, zp))
    (i : Int) (hi : (key i).wf = true) : ∃ v ps, (Instr.lookup t (.map (some b)) (.int .i64 i) false).run P w = .ok v w ∧ R v = some ((F i).getD zd, ps) := by
  obtain ⟨D, h, r⟩ := h
  obtain ⟨v, ps, a, c⟩ := h.lookup (Maps.int_keyed hk) ht hz hzd (Maps.keyOf_int_mk hk hi)
  exact ⟨v, ps, a, by rw [c, show D.atKey (Lit.int IntKind.i64 i) zd = (F i).getD zd from (r.2 i hi).2 zd]⟩
theorem IMap.look_ok {t e : TypeId} (h : IMap w P k R b n F) (hk : P.underlying k = some (.int .i64)) (ht : P.underlying t = some (.map k e)) {z : Value} (hz : (zeroValue e).run P w = .ok z w) {zd : D0} {zp : List MemPlace} (hzd : R z = some (zd, zp))
    (i : Int) (hi : (key i).wf = true) : ∃ v ps, (Instr.lookup t (.map (some b)) (.int .i64 i) true).run P w = .ok (.tuple #[v, .bool (F i).isSome]) w ∧ R v = some ((F i).getD zd, ps) := by
  obtain ⟨D, h, r⟩ := h
  obtain ⟨v, ps, a, c⟩ := h.look_ok (Maps.int_keyed hk) ht hz hzd (Maps.keyOf_int_mk hk hi)
  exact ⟨v, ps, by rw [a, show Maps.has D (Lit.int IntKind.i64 i) = (F i).isSome from (r.2 i hi).1], by rw [c, show D.atKey (Lit.int IntKind.i64 i) zd = (F i).getD zd from (r.2 i hi).2 zd]⟩
theorem IMap.update {t e : TypeId} (h : IMap w P k R b n F) (hk : P.underlying k = some (.int .i64)) (ht : P.underlying t = some (.map k e)) (hn : n < maxLen) (i : Int) (hi : (key i).wf = true) {val : Value} {d : D0} {ps : List MemPlace} (hv : R val = some (d, ps)) :
    ∃ w', (Instr.mapUpdate t (.map (some b)) (.int .i64 i) val).run P w = .ok () w' ∧ IMap w' P k R b (n + 1) (fun j => if j = i then some d else F j) ∧ w.grownBy w' (some b) := by
  obtain ⟨D, h, r⟩ := h
  obtain ⟨w', a, c, g⟩ := h.update (Maps.int_keyed hk) ht hn (Maps.keyOf_int_mk hk hi) hv
  exact ⟨w', a, ⟨_, c, r.put i d⟩, g⟩
theorem IMap.drop {t e : TypeId} (h : IMap w P k R b n F) (hk : P.underlying k = some (.int .i64)) (ht : P.underlying t = some (.map k e)) (i : Int) (hi : (key i).wf = true) (ty : TypeId) :
    ∃ w', (Builtin.delete_ #[t, k] ty #[.map (some b), .int .i64 i]).run P w = .ok (.tuple #[]) w' ∧ IMap w' P k R b n (fun j => if j = i then none else F j) ∧ w.mapTurned w' b := by
  obtain ⟨D, h, r⟩ := h
  obtain ⟨w', a, c, g⟩ := h.drop (Maps.int_keyed hk) ht (Maps.keyOf_int_mk hk hi) ty
  exact ⟨w', a, ⟨_, c, r.del i⟩, g⟩
end
end Go.Proofs.Ytdjcaogffppdhaa.IMap
