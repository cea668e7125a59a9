/- What the reference's loops have in common: a frame of which only some slots are told; a thing's field that is read and stored; the thing appended to its list. -/
import Derived.Test.YtgdoodeibcfcjaaCRef
import Derived.Test.YtgdoodeibcfcjaaCMain
import Derived.Maps.AppendAt
set_option linter.unusedVariables false
set_option linter.unusedSimpArgs false
namespace Go.Proofs.Ytgdoodeibcfcjaa.Wire
open Go.RowKit Go.Proofs.Ytgdoodeibcfcjaa.NumsPure Go.Proofs.Ytgdoodeibcfcjaa.CPure
/-! ### A frame of which the low slots alone are told -/
structure Lo (L : Nat) (a a' : Act) : Prop where
  size : a'.tmps.size = a.tmps.size
  defers : a'.defers = a.defers
  low : ∀ s, s < L → a'.eval (.tmp s) = a.eval (.tmp s)
theorem Lo.refl (L : Nat) (a : Act) : Lo L a a := ⟨rfl, rfl, fun _ _ => rfl⟩
theorem Lo.trans {L : Nat} {a b c : Act} (h : Lo L a b) (k : Lo L b c) : Lo L a c := ⟨k.size.trans h.size, k.defers.trans h.defers, fun s hs => (k.low s hs).trans (h.low s hs)⟩
theorem put_size (a : Act) (d : Option Nat) (v : Value) : (a.put d v).tmps.size = a.tmps.size := by cases d <;> simp [Act.put]
theorem put_defers (a : Act) (d : Option Nat) (v : Value) : (a.put d v).defers = a.defers := by cases d <;> rfl
theorem put_none (a : Act) (v : Value) : a.put none v = a := rfl
theorem put_same {a : Act} {d : Nat} (v : Value) (h : d < a.tmps.size) : (a.put (some d) v).eval (.tmp d) = v := by
  simp [Act.put, Act.eval, Array.getD_eq_getD_getElem?, h]
theorem put_other {a : Act} {d s : Nat} (v : Value) (h : s ≠ d) : (a.put (some d) v).eval (.tmp s) = a.eval (.tmp s) := by
  simp [Act.put, Act.eval, Array.getD_eq_getD_getElem?, Array.getElem?_setIfInBounds, h.symm]
theorem Lo.put {L : Nat} {a b : Act} (h : Lo L a b) {d : Nat} (v : Value) (hd : L ≤ d) : Lo L a (b.put (some d) v) :=
  ⟨(put_size _ _ _).trans h.size, (put_defers _ _ _).trans h.defers, fun s hs => (put_other v (by omega)).trans (h.low s hs)⟩
/-! ### Operations by what they are -/
section
variable {P : Program} {ops : Array Oper} {rest : List Oper} {o : Oper} {a : Act} {w : World} {Q : Exit → Act → World → Prop}
theorem wpList_run (hg : o.guard = none) (v : Value) (hv : (execOp a.eval o).run P w = .ok (.value v) w) (h : wpList P ops Q rest (a.put o.dst v) w) : wpList P ops Q (o :: rest) a w :=
  wpList_plain hg fun K hK => by
    unfold Oper.wp
    rw [hv]
    exact hK _ _ h
theorem wpList_mv (hg : o.guard = none) (x : Operand) (ho : o.op = .move x ∨ o.op = .assign x) (h : wpList P ops Q rest (a.put o.dst (a.eval x)) w) : wpList P ops Q (o :: rest) a w :=
  wpList_run hg _ (by unfold execOp; rcases ho with e | e <;> rw [e] <;> rfl) h
theorem wpList_callR (hg : o.guard = none) (fn : Nat) (args : Array Operand) (tys : Array TypeId) (ho : o.op = .call { callee := .value (.func fn), args := args, argTypes := tys })
    (vals : Array Value) (hv : args.map a.eval = vals) (hcf : (callFunc fn vals).run P w = .ok (.enter fn vals) w) (R : Ending → World → Prop) (hc : Calls P fn vals w R) (h : ∀ e w', R e w' → ∃ v, e = .returned v ∧ wpList P ops Q rest (a.put o.dst v) w') : wpList P ops Q (o :: rest) a w :=
  wpList_plain hg fun K hK => by
    have hrun : (execOp a.eval o).run P w = .ok (.enter fn vals) w := by
      subst hv
      unfold execOp
      simp [ho, go_sem, hcf]
    unfold Oper.wp
    rw [hrun, Oper.upon_enter]
    refine hc.mono fun e w' hr => ?_
    obtain ⟨v, rfl, hh⟩ := h e w' hr
    exact hK _ _ hh
end
end Go.Proofs.Ytgdoodeibcfcjaa.Wire
