/- A builder stays one while nothing that stands is written. -/
import Derived.Test.YtgdoodeibcfcjaaGreatBldS
import Derived.Test.YtgdoodeibcfcjaaGreatDOwn
import Derived.Lib.FrozenHead
set_option linter.unusedVariables false
namespace Go.Proofs.YtgdoodeibcfcjaaGreat.BldS
open Go.RowKit Go.Proofs.YtgdoodeibcfcjaaGreat.Own
theorem at_below {B b : Nat} {p : Value} {bs : List Value} {w w' : World} (h : Lib.BuilderAt 108 5 B b p bs w) (hb : Below w.heap.size w w') : Lib.BuilderAt 108 5 B b p bs w' := by
  have hlt := h.lt
  obtain ⟨hB, v, hbk, hown, hne⟩ := h
  exact ⟨hB, v, by rw [hb.block b hlt]; exact hbk, own_below hown hb, hne⟩
theorem is_below {B b : Nat} {bs : List Value} {w w' : World} (h : Lib.IsBuilder 108 5 B b bs w) (hb : Below w.heap.size w w') : Lib.IsBuilder 108 5 B b bs w' := by
  rcases h with h | h
  · exact .inl (at_below h hb)
  · exact .inr (at_below h hb)
theorem isF {B b : Nat} {bs : List Value} {w : World} (h : Lib.IsBuilder 108 5 B b bs w) : Lib.IsBuilderF 108 5 B b bs w.drew := (Lib.IsBuilderF.of h : Lib.IsBuilderF 108 5 B b bs w)
theorem isF_below {B b : Nat} {bs : List Value} {w w' : World} (h : Lib.IsBuilderF 108 5 B b bs w) (hb : Below w.heap.size w w') : Lib.IsBuilderF 108 5 B b bs w' := by
  rcases h with ⟨hB, v, hbk, hown, hne⟩ | ⟨hB, v, hbk, hown, hne⟩
  · exact .inl ⟨hB, v, by rw [hb.block b (Array.getElem?_eq_some_iff.1 hbk).1]; exact hbk, hown.kept (grown_of_below hb none) (by cases v.ownBlock <;> simp), hne⟩
  · exact .inr ⟨hB, v, by rw [hb.block b (Array.getElem?_eq_some_iff.1 hbk).1]; exact hbk, hown.kept (grown_of_below hb none) (by cases v.ownBlock <;> simp), hne⟩
theorem cells_str (s : ByteArray) : Lib.strCells s = Lib.byteCells s.data.toList := by simp [Lib.strCells, Lib.byteCells]
theorem cells_app (a b : List UInt8) : Lib.byteCells (a ++ b) = Lib.byteCells a ++ Lib.byteCells b := by simp [Lib.byteCells]
theorem cells_len (a : List UInt8) : (Lib.byteCells a).length = a.length := by simp [Lib.byteCells]
end Go.Proofs.YtgdoodeibcfcjaaGreat.BldS
