/- A media beside other things in memory (the blocks of which X tells): what each call on the media answers, and that those other things stay. -/
import Derived.Test.YtdjcaogffppdhaaSize
set_option linter.unusedVariables false
set_option linter.unusedSimpArgs false
namespace Go.Proofs.Ytdjcaogffppdhaa.AtX
open Go.RowKit Go.Proofs.YtdjcaogffppdhaaW.PrintWords Go.Proofs.YtdjcaogffppdhaaW.PrintLast Go.Proofs.YtdjcaogffppdhaaW.PrintMore
open Go.Proofs.Ytdjcaogffppdhaa.Med (IsMed Med Ranged IsSize)
/-- The media at b, made behind the world w0; X: blocks that are not its own. -/
structure AtX (w0 : World) (X : Nat → Prop) (b : Nat) (M : Med) (n : Nat) (w : World) : Prop where
  med : ∃ own, IsMed w own b M n ∧ ∀ i, own i → w0.heap.size ≤ i ∧ i < w.heap.size ∧ ¬X i
  lt : ∀ i, X i → i < w.heap.size
  below : Below w0.heap.size w0 w
def Same (X : Nat → Prop) (w w' : World) : Prop := ∀ i, X i → w'.heap[i]? = w.heap[i]?
/-- What a call has made of a media. -/
def Left (own : Nat → Prop) (b : Nat) (w : World) (M : Med) (n : Nat) (w' : World) : Prop := ∃ own', IsMed w' own' b M n ∧ (∀ j, own' j → own j ∨ w.heap.size ≤ j) ∧ Med.Frame own w w'
theorem restrict {w : World} {own : Nat → Prop} {b : Nat} {M : Med} {n : Nat} (h : IsMed w own b M n) : IsMed w (fun i => own i ∧ i < w.heap.size) b M n := h.weaken fun i hi ho => ⟨ho, hi⟩
theorem AtX.mk' {w0 w : World} {X : Nat → Prop} {b : Nat} {M : Med} {n : Nat} (h : IsMed w (fun i => w0.heap.size ≤ i) b M n) (hX : ∀ i, X i → i < w0.heap.size) (hb : Below w0.heap.size w0 w) : AtX w0 X b M n w :=
  ⟨⟨_, restrict h, fun i hi => ⟨hi.1, hi.2, fun hx => by have := hX i hx; have := hi.1; omega⟩⟩, fun i hx => by have := hX i hx; have := hb.size; omega, hb⟩
theorem AtX.new (w : World) : Calls Try.prog 10 #[] w fun e w' => ∃ b, e = .returned (.pointer (some ⟨b, 0, none⟩)) ∧ AtX w (fun _ => False) b Med.new 0 w' :=
  (Med.New_calls w).mono fun e w' ⟨b, he, h1, h2⟩ => ⟨b, he, AtX.mk' h1 (fun i h => h.elim) h2⟩
section
variable {w0 w : World} {X : Nat → Prop} {b : Nat} {M : Med} {n : Nat}
/-- A thing is made anew, behind the media. -/
theorem AtX.more (h : AtX w0 X b M n w) {w' : World} (k : Below w.heap.size w w') (Y : Nat → Prop) (hY : ∀ i, Y i → (X i ∨ w.heap.size ≤ i) ∧ i < w'.heap.size) : AtX w0 Y b M n w' := by
  obtain ⟨own, hm, ho⟩ := h.med
  refine ⟨⟨own, hm.below k, fun i hi => ?_⟩, fun i hi => (hY i hi).2, h.below.trans (k.mono h.below.size)⟩
  obtain ⟨a, c, d⟩ := ho i hi
  refine ⟨a, Nat.lt_of_lt_of_le c k.size, fun hy => ?_⟩
  rcases (hY i hy).1 with h1 | h1
  · exact d h1
  · omega
theorem AtX.after (h : AtX w0 X b M n w) {w' : World} (k : Below w.heap.size w w') : AtX w0 X b M n w' := h.more k X fun i hi => ⟨.inl hi, Nat.lt_of_lt_of_le (h.lt i hi) k.size⟩
theorem Same.below (h : ∀ i, X i → i < w.heap.size) {w' : World} (k : Below w.heap.size w w') : Same X w w' := fun i hi => k.block i (h i hi)
theorem Same.trans {w1 w2 : World} (h : Same X w w1) (k : Same X w1 w2) : Same X w w2 := fun i hi => (k i hi).trans (h i hi)
/-- The other things turn, the media stays. -/
theorem AtX.beside (h : AtX w0 X b M n w) {w' : World} (fr : Med.Frame X w w') (Y : Nat → Prop) (hY : ∀ i, Y i → (X i ∨ w.heap.size ≤ i) ∧ i < w'.heap.size) (hb : Below w0.heap.size w0 w') : AtX w0 Y b M n w' := by
  obtain ⟨own, hm, ho⟩ := h.med
  refine ⟨⟨own, hm.frame fr fun i hi => (ho i hi).2.2, fun i hi => ?_⟩, fun i hi => (hY i hi).2, hb⟩
  obtain ⟨a, c, d⟩ := ho i hi
  refine ⟨a, Nat.lt_of_lt_of_le c fr.size, fun hy => ?_⟩
  rcases (hY i hy).1 with h1 | h1
  · exact d h1
  · omega
theorem AtX.mono (h : AtX w0 X b M n w) {n' : Nat} (k : n ≤ n') : AtX w0 X b M n' w := by
  obtain ⟨own, hm, ho⟩ := h.med
  exact ⟨⟨own, hm.mono k, ho⟩, h.lt, h.below⟩
theorem AtX.left (h : AtX w0 X b M n w) {own : Nat → Prop} (ho : ∀ i, own i → w0.heap.size ≤ i ∧ i < w.heap.size ∧ ¬X i) {M' : Med} {n' : Nat} {w' : World} (k : Left own b w M' n' w') : AtX w0 X b M' n' w' ∧ Same X w w' := by
  obtain ⟨own', m, hj, fr⟩ := k
  have hs := h.below.size
  refine ⟨⟨⟨_, restrict m, fun i hi => ?_⟩, fun i hi => Nat.lt_of_lt_of_le (h.lt i hi) fr.size, h.below.trans (fr.below hs fun i hi => (ho i hi).1)⟩, fun i hi => fr.block i (h.lt i hi) fun h1 => (ho i h1).2.2 hi⟩
  rcases hj i hi.1 with h1 | h1
  · exact ⟨(ho i h1).1, hi.2, (ho i h1).2.2⟩
  · exact ⟨by omega, hi.2, fun hx => by have := h.lt i hx; omega⟩
theorem AtX.framed (h : AtX w0 X b M n w) {own : Nat → Prop} (ho : ∀ i, own i → w0.heap.size ≤ i ∧ i < w.heap.size ∧ ¬X i) {M' : Med} {n' : Nat} {w' : World} (m : IsMed w' own b M' n') (fr : Med.Frame own w w') : AtX w0 X b M' n' w' ∧ Same X w w' :=
  h.left ho ⟨own, m, fun j hj => .inl hj, fr⟩
theorem AtX.arm_calls (h : AtX w0 X b M n w) (x : Int) (hx : x ≤ 9223372036854775807) : Calls Try.prog 11 #[.pointer (some ⟨b, 0, none⟩), .int .i64 x] w fun e w' => e = .returned (.tuple #[]) ∧ AtX w0 X b (M.arm x) n w' ∧ Same X w w' := by
  obtain ⟨own, hm, ho⟩ := h.med
  exact (Med.arm_calls hm x hx).mono fun e w' ⟨he, hm', hf⟩ => ⟨he, h.framed ho hm' hf⟩
theorem AtX.on_calls (h : AtX w0 X b M n w) : Calls Try.prog 24 #[.pointer (some ⟨b, 0, none⟩)] w fun e w' => e = .returned (.tuple #[]) ∧ AtX w0 X b M.on n w' ∧ Same X w w' := by
  obtain ⟨own, hm, ho⟩ := h.med
  exact (Med.on_calls hm).mono fun e w' ⟨he, hm', hf⟩ => ⟨he, h.framed ho hm' hf⟩
theorem AtX.write_calls (h : AtX w0 X b M n w) (f i : Int) (s : ByteArray) (hs : s.size ≤ 9223372036854775807) (hn : n < 4611686018427380000) :
    Calls Try.prog 12 #[.pointer (some ⟨b, 0, none⟩), .int .i64 f, .int .i64 i, .string s] w fun e w' => e = .returned (.int .i64 (M.write f i s).2) ∧ AtX w0 X b (M.write f i s).1 (n + 3) w' ∧ Same X w w' := by
  obtain ⟨own, hm, ho⟩ := h.med
  exact (Med.write_calls hm f i s hs hn).mono fun e w' ⟨own', he, hm', hj, hf⟩ => ⟨he, h.left ho ⟨own', hm', hj, hf⟩⟩
theorem AtX.read_calls (h : AtX w0 X b M n w) (f i : Int) : Calls Try.prog 21 #[.pointer (some ⟨b, 0, none⟩), .int .i64 f, .int .i64 i] w fun e w' => e = .returned (.tuple #[.string (M.read f i).1, .int .i64 (M.read f i).2]) ∧ ∃ m, w' = w.drewN m := by
  obtain ⟨own, hm, ho⟩ := h.med
  exact Med.read_calls hm f i
theorem AtX.writes_calls (h : AtX w0 X b M n w) : Calls Try.prog 14 #[.pointer (some ⟨b, 0, none⟩)] w fun e w' => e = .returned (.int .i64 M.writes) ∧ w' = w := by
  obtain ⟨own, hm, ho⟩ := h.med
  exact Med.writes_calls hm
theorem AtX.size_calls (h : AtX w0 X b M n w) (hok : Ranged M) (f : Int) (hf : (Lit.int .i64 f).wf = true) : Calls Try.prog 15 #[.pointer (some ⟨b, 0, none⟩), .int .i64 f] w fun e w' => ∃ r, e = .returned (.int .i64 r) ∧ IsSize M f r ∧ AtX w0 X b M n w' ∧ Same X w w' := by
  obtain ⟨own, hm, ho⟩ := h.med
  exact (Med.size_calls hm hok f hf).mono fun e w' ⟨r, he, hr, hb⟩ => ⟨r, he, hr, h.after hb, Same.below h.lt hb⟩
end
end Go.Proofs.Ytdjcaogffppdhaa.AtX
