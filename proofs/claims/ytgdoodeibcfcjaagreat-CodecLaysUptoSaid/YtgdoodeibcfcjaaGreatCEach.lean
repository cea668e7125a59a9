/- The wire's calls with the pointers' row that their caller lays. -/
import Derived.Test.YtgdoodeibcfcjaaGreatCNts
set_option linter.unusedVariables false
set_option linter.unusedSimpArgs false
namespace Go.Proofs.YtgdoodeibcfcjaaGreat.Wire
open Go.RowKit Go.Proofs.YtgdoodeibcfcjaaGreat.NumsPure Go.Proofs.YtgdoodeibcfcjaaGreat.CPure Go.Proofs.YtgdoodeibcfcjaaGreat.Own
open Go.Proofs.YtgdoodeibcfcjaaGreat.Put (digits digits_lt digits_ge)
open Go.Proofs.YtgdoodeibcfcjaaGreat.BldS (Keeps)
theorem cs_alloc (w : World) (cs : Array Value) (T : TypeId) (vs : List Value) (h : cs = vs.toArray) : Cs w.heap.size T vs (w.alloc (.cells cs T)) := by
  subst h
  exact heap_alloc_new w _
theorem alloc_drew (w : World) (o : Obj) : Below w.heap.size w (w.alloc o).drew :=
  have b : Below w.heap.size w (w.alloc o) := (Below.refl _ w).alloc (Nat.le_refl _) o
  ⟨b.os, b.tape, b.output, b.size, b.block⟩
theorem cs_drew (w : World) (cs : Array Value) (T : TypeId) (vs : List Value) (h : cs = vs.toArray) : Cs w.heap.size T vs (w.alloc (.cells cs T)).drew := by
  subst h
  exact heap_alloc_new w _
theorem alloc_below (w : World) (o : Obj) : Below w.heap.size w (w.alloc o) := (Below.refl _ w).alloc (Nat.le_refl _) o
section
variable {B wb bb xb n : Nat} {bs : List UInt8} {T : TypeId} {vs : List Value} {cs : Array Value} {w W : World} {s : Rd}
theorem wr_call {e : Ending} {w' : World} {b2 : List UInt8} (hW : Below w.heap.size w W) (h : Wr B wb bb bs w) (k : Writ B wb bb b2 W e w') : Writ B wb bb b2 w e w' := ⟨k.1, k.2.1, (Wk.of_below h.le hW).trans k.2.2⟩
theorem texts_wc (hW : Below w.heap.size w W) (js : List Nat) (hg : Cs w.heap.size 142 (js.map (ptr xb)) W) (h : Wr B wb bb bs w) (hx : Cs xb T vs w) (hT : T ≠ 5) (hT2 : T ≠ 108) (hn : js.length = n) (hk : OkAt (at_ .t js) vs) (hl : bs.length + (encAt (at_ .t js) vs).length ≤ 140737488355328) (hjs : js.length ≤ 1000) :
    Calls Tryz.prog 58 #[.pointer (some ⟨wb, 0, none⟩), .slice (some ⟨w.heap.size, 0, none⟩) n n] W (Writ B wb bb (bs ++ encAt (at_ .t js) vs) w) := by
  subst hn
  exact (texts_w (h.below hW) hg (hx.keep (hW.block xb hx.lt)) hT hT2 hk hl hjs).mono fun e w' k => wr_call hW h k
theorem nums_wc (hW : Below w.heap.size w W) (js : List Nat) (hg : Cs w.heap.size 144 (js.map (ptr xb)) W) (h : Wr B wb bb bs w) (hx : Cs xb T vs w) (hT : T ≠ 5) (hT2 : T ≠ 108) (hn : js.length = n) (hk : OkAt (at_ .n js) vs) (hl : bs.length + (encAt (at_ .n js) vs).length ≤ 140737488355328) (hjs : js.length ≤ 1000) :
    Calls Tryz.prog 59 #[.pointer (some ⟨wb, 0, none⟩), .slice (some ⟨w.heap.size, 0, none⟩) n n] W (Writ B wb bb (bs ++ encAt (at_ .n js) vs) w) := by
  subst hn
  exact (nums_w (h.below hW) hg (hx.keep (hW.block xb hx.lt)) hT hT2 hk hl hjs).mono fun e w' k => wr_call hW h k
theorem truths_wc (hW : Below w.heap.size w W) (js : List Nat) (hg : Cs w.heap.size 169 (js.map (ptr xb)) W) (h : Wr B wb bb bs w) (hx : Cs xb T vs w) (hT : T ≠ 5) (hT2 : T ≠ 108) (hn : js.length = n) (hk : OkAt (at_ .b js) vs) (hl : bs.length + (encAt (at_ .b js) vs).length ≤ 140737488355328) (hjs : js.length ≤ 1000) :
    Calls Tryz.prog 72 #[.pointer (some ⟨wb, 0, none⟩), .slice (some ⟨w.heap.size, 0, none⟩) n n] W (Writ B wb bb (bs ++ encAt (at_ .b js) vs) w) := by
  subst hn
  exact (truths_w (h.below hW) hg (hx.keep (hW.block xb hx.lt)) hT hT2 hk hl hjs).mono fun e w' k => wr_call hW h k
theorem rd_call {p : Rd × List Value} {e : Ending} {w' : World} (hW : Below w.heap.size w W) (k : Redd wb xb T p W e w') : Redd wb xb T p w e w' := ⟨k.1, k.2.1, k.2.2.1, (Fr.of_below hW).trans k.2.2.2 fun i hi => .inl hi⟩
theorem texts_rc (hW : Below w.heap.size w W) (js : List Nat) (hg : Cs w.heap.size 142 (js.map (ptr xb)) W) (h : Rw wb s w) (hx : Cs xb T vs w) (hxw : xb ≠ wb) (hn : js.length = n) (hj : ∀ j ∈ js, j < vs.length) (hl : s.D.length ≤ 1000000000000) (hjs : js.length ≤ 1000) :
    Calls Tryz.prog 58 #[.pointer (some ⟨wb, 0, none⟩), .slice (some ⟨w.heap.size, 0, none⟩) n n] W (Redd wb xb T (rdAt (at_ .t js) (s, vs)) w) := by
  subst hn
  have hw := Cs.lt h
  have hx' := hx.lt
  exact (texts_r (h.below hW) hg (hx.keep (hW.block xb hx.lt)) (by omega) (by omega) hxw hj hl hjs).mono fun e w' k => rd_call hW k
theorem nums_rc (hW : Below w.heap.size w W) (js : List Nat) (hg : Cs w.heap.size 144 (js.map (ptr xb)) W) (h : Rw wb s w) (hx : Cs xb T vs w) (hxw : xb ≠ wb) (hn : js.length = n) (hj : ∀ j ∈ js, j < vs.length) (hl : s.D.length ≤ 1000000000000) (hjs : js.length ≤ 1000) :
    Calls Tryz.prog 59 #[.pointer (some ⟨wb, 0, none⟩), .slice (some ⟨w.heap.size, 0, none⟩) n n] W (Redd wb xb T (rdAt (at_ .n js) (s, vs)) w) := by
  subst hn
  have hw := Cs.lt h
  have hx' := hx.lt
  exact (nums_r (h.below hW) hg (hx.keep (hW.block xb hx.lt)) (by omega) (by omega) hxw hj hl hjs).mono fun e w' k => rd_call hW k
theorem truths_rc (hW : Below w.heap.size w W) (js : List Nat) (hg : Cs w.heap.size 169 (js.map (ptr xb)) W) (h : Rw wb s w) (hx : Cs xb T vs w) (hxw : xb ≠ wb) (hn : js.length = n) (hj : ∀ j ∈ js, j < vs.length) (hl : s.D.length ≤ 1000000000000) (hjs : js.length ≤ 1000) :
    Calls Tryz.prog 72 #[.pointer (some ⟨wb, 0, none⟩), .slice (some ⟨w.heap.size, 0, none⟩) n n] W (Redd wb xb T (rdAt (at_ .b js) (s, vs)) w) := by
  subst hn
  have hw := Cs.lt h
  have hx' := hx.lt
  exact (truths_r (h.below hW) hg (hx.keep (hW.block xb hx.lt)) (by omega) (by omega) hxw hj hl hjs).mono fun e w' k => rd_call hW k
end
/-- A function that lays, and reads, a thing's cells from some place on. -/
def WritesAt (fn : Nat) (sc : Nat → Sc) : Prop := ∀ (B wb bb xb o : Nat) (bs : List UInt8) (T : TypeId) (vs : List Value) (w : World), Wr B wb bb bs w → Cs xb T vs w → T ≠ 5 → T ≠ 108 → OkAt (sc o) vs → bs.length + (encAt (sc o) vs).length ≤ 140737488355328 →
  Calls Tryz.prog fn #[.pointer (some ⟨wb, 0, none⟩), .pointer (some ⟨xb, o, none⟩)] w (Writ B wb bb (bs ++ encAt (sc o) vs) w)
def ReadsAt (fn : Nat) (sc : Nat → Sc) : Prop := ∀ (wb xb o : Nat) (s : Rd) (T : TypeId) (vs : List Value) (w : World), Rw wb s w → Cs xb T vs w → xb ≠ wb → (∀ x ∈ sc o, x.2 < vs.length) → s.D.length ≤ 1000000000000 →
  Calls Tryz.prog fn #[.pointer (some ⟨wb, 0, none⟩), .pointer (some ⟨xb, o, none⟩)] w (Redd wb xb T (rdAt (sc o) (s, vs)) w)
end Go.Proofs.YtgdoodeibcfcjaaGreat.Wire
