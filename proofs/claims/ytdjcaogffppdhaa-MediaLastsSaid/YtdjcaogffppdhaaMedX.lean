/- A media beside other things in memory: Remove and Files. -/
import Derived.Test.YtdjcaogffppdhaaAtX
import Derived.Test.YtdjcaogffppdhaaMedN
import Derived.Test.YtdjcaogffppdhaaLst
set_option linter.unusedVariables false
set_option linter.unusedSimpArgs false
namespace Go.Proofs.Ytdjcaogffppdhaa.AtX
open Go.RowKit Go.Proofs.YtdjcaogffppdhaaW.PrintWords Go.Proofs.YtdjcaogffppdhaaW.PrintLast Go.Proofs.YtdjcaogffppdhaaW.PrintMore
open Go.Proofs.Ytdjcaogffppdhaa.Med (IsMed Med Ranged IsSize IsFiles Filed)
open Go.Proofs.Ytdjcaogffppdhaa.Lst
section
variable {w0 w : World} {X : Nat → Prop} {b : Nat} {M : Med} {n : Nat}
theorem AtX.remove_calls (h : AtX w0 X b M n w) (f : Int) (hn : n < 4611686018427380000) :
    Calls Try.prog 19 #[.pointer (some ⟨b, 0, none⟩), .int .i64 f] w fun e w' => e = .returned (.int .i64 (M.remove f).2) ∧ AtX w0 X b (M.remove f).1 (n + 3) w' ∧ Same X w w' := by
  obtain ⟨own, hm, ho⟩ := h.med
  exact (Med.remove_calls hm f hn).mono fun e w' ⟨he, hm', hf⟩ => ⟨he, h.framed ho hm' hf⟩
theorem AtX.files_calls (h : AtX w0 X b M n w) (hfd : Filed M) (hn : n ≤ 10000000000000) :
    Calls Try.prog 27 #[.pointer (some ⟨b, 0, none⟩)] w fun e w' => ∃ (v : Value) (l : List Int), e = .returned v ∧ IsFiles M l ∧ Lst w' v l ∧ (∀ i, v.ownBlock = some i → w.heap.size ≤ i) ∧ AtX w0 (fun i => X i ∨ v.ownBlock = some i) b M n w' ∧ Same X w w' := by
  obtain ⟨own, hm, ho⟩ := h.med
  refine (Med.files_calls hm hfd hn).mono ?_
  rintro e w' ⟨v, l, he, hl, hr, hb⟩
  refine ⟨v, l, he, hl, Lst.of_row hr, fun i hi => (hr.lt i hi).1, h.more hb _ fun i hi => ?_, Same.below h.lt hb⟩
  rcases hi with hi | hi
  · exact ⟨.inl hi, Nat.lt_of_lt_of_le (h.lt i hi) hb.size⟩
  · exact ⟨.inr (hr.lt i hi).1, (hr.lt i hi).2⟩
theorem AtX.narrow (h : AtX w0 X b M n w) (Y : Nat → Prop) (hY : ∀ i, Y i → X i) : AtX w0 Y b M n w := h.more (Below.refl _ _) Y fun i hi => ⟨.inl (hY i hi), h.lt i (hY i hi)⟩
end
end Go.Proofs.Ytdjcaogffppdhaa.AtX
