/- The wire in memory: writing and reading; what numbers and texts are written and read by. -/
import Derived.Test.YtgdoodeibcfcjaaGreatCPure
import Derived.Test.YtgdoodeibcfcjaaGreatDNums
import Derived.Deep.MidRow
set_option linter.unusedVariables false
set_option linter.unusedSimpArgs false
namespace Go.Proofs.YtgdoodeibcfcjaaGreat.Wire
open Go.RowKit Go.Proofs.YtgdoodeibcfcjaaGreat.NumsPure Go.Proofs.YtgdoodeibcfcjaaGreat.CPure Go.Proofs.YtgdoodeibcfcjaaGreat.Own
open Go.Proofs.YtgdoodeibcfcjaaGreat.Put (digits digits_lt digits_ge)
open Go.Proofs.YtgdoodeibcfcjaaGreat.BldS (Keeps)
/-! ### The wire in memory -/
/-- What has turned, and what has not. -/
structure Fr (own : Nat → Prop) (w w' : World) : Prop where
  os : w'.os = w.os
  tape : w'.tape = w.tape
  output : w'.output = w.output
  size : w.heap.size ≤ w'.heap.size
  block : ∀ i, i < w.heap.size → ¬own i → w'.heap[i]? = w.heap[i]?
theorem Fr.refl (own : Nat → Prop) (w : World) : Fr own w w := ⟨rfl, rfl, rfl, Nat.le_refl _, fun _ _ _ => rfl⟩
theorem Fr.of_below {own : Nat → Prop} {w w' : World} (h : Below w.heap.size w w') : Fr own w w' := ⟨h.os, h.tape, h.output, h.size, fun i hi _ => h.block i hi⟩
theorem Fr.trans {own own' : Nat → Prop} {w w1 w2 : World} (h : Fr own w w1) (k : Fr own' w1 w2) (ho : ∀ i, own' i → own i ∨ w.heap.size ≤ i) : Fr own w w2 :=
  ⟨k.os.trans h.os, k.tape.trans h.tape, k.output.trans h.output, Nat.le_trans h.size k.size, fun i hi hn => (k.block i (Nat.lt_of_lt_of_le hi h.size) fun e => by
    rcases ho i e with o | o
    · exact hn o
    · omega).trans (h.block i hi hn)⟩
theorem Fr.set {own : Nat → Prop} {w w' : World} (h : Fr own w w') (a : Addr) (v : Value) (ho : own a.block ∨ w.heap.size ≤ a.block) : Fr own w (w'.setCell a v) := by
  refine ⟨h.os, h.tape, h.output, by simpa using h.size, fun i hi hn => ?_⟩
  rw [Below.heap_setCell w' a v i (fun e => by
    rcases ho with o | o
    · exact hn (by rw [e]; exact o)
    · omega)]
  exact h.block i hi hn
theorem Fr.below {own : Nat → Prop} {w w' : World} (h : Fr own w w') (ho : ∀ i, own i → w.heap.size ≤ i) : Below w.heap.size w w' := ⟨h.os, h.tape, h.output, h.size, fun i hi => h.block i hi fun e => by have := ho i e; omega⟩
theorem Fr.drew {own : Nat → Prop} {w w' : World} (h : Fr own w w') : Fr own w w'.drew := ⟨h.os, h.tape, h.output, h.size, h.block⟩
theorem Fr.drewN {own : Nat → Prop} {w w' : World} (h : Fr own w w') (n : Nat) : Fr own w (w'.drewN n) := ⟨h.os, h.tape, h.output, h.size, h.block⟩
/-- A block of cells. -/
def Cs (b : Nat) (T : TypeId) (vs : List Value) (w : World) : Prop := w.heap[b]? = some (.cells vs.toArray T (0, 0))
theorem Cs.cell {b : Nat} {T : TypeId} {vs : List Value} {w : World} (h : Cs b T vs w) (j : Nat) : w.cell? ⟨b, j, none⟩ = vs[j]? := by
  unfold Cs at h
  simp [World.cell?, h]
theorem Cs.frozen {b : Nat} {T : TypeId} {vs : List Value} {w : World} (h : Cs b T vs w) (j : Nat) : w.frozen? ⟨b, j, none⟩ = false := by
  unfold Cs at h
  simp [World.frozen?, h]
theorem Cs.lt {b : Nat} {T : TypeId} {vs : List Value} {w : World} (h : Cs b T vs w) : b < w.heap.size := (Array.getElem?_eq_some_iff.1 h).1
theorem Cs.set {b : Nat} {T : TypeId} {vs : List Value} {w : World} (h : Cs b T vs w) (j : Nat) (v : Value) : Cs b T (vs.set j v) (w.setCell ⟨b, j, none⟩ v) := by
  unfold Cs at h ⊢
  simp [World.setCell, Array.getElem?_modify, h]
theorem Cs.keep {b : Nat} {T : TypeId} {vs : List Value} {w w' : World} (h : Cs b T vs w) (k : w'.heap[b]? = w.heap[b]?) : Cs b T vs w' := k.trans h
theorem Cs.other {b : Nat} {T : TypeId} {vs : List Value} {w : World} (h : Cs b T vs w) (a : Addr) (v : Value) (hne : a.block ≠ b) : Cs b T vs (w.setCell a v) := by
  unfold Cs
  rw [Below.heap_setCell w a v b (fun e => hne e.symm)]
  exact h
/-- The wire that reads. -/
def Rw (wb : Nat) (s : Rd) (w : World) : Prop := Cs wb 110 [.pointer none, .string ⟨s.D.toArray⟩, .bool s.bad] w
/-- The wire that writes. -/
structure Wr (B wb bb : Nat) (bs : List UInt8) (w : World) : Prop where
  hw : Cs wb 110 [.pointer (some ⟨bb, 0, none⟩), .string ⟨#[]⟩, .bool false] w
  hb : Lib.IsBuilder 108 5 B bb (Lib.byteCells bs) w
  le : B ≤ w.heap.size
/-- What writing leaves. -/
structure Wk (B bb : Nat) (w w' : World) : Prop where
  below : Below B w w'
  keeps : Keeps bb w w'
theorem Wk.refl (B bb : Nat) (w : World) : Wk B bb w w := ⟨Below.refl _ _, Keeps.refl _ _⟩
theorem Wk.trans {B bb : Nat} {w w1 w2 : World} (h : Wk B bb w w1) (k : Wk B bb w1 w2) : Wk B bb w w2 := ⟨h.below.trans k.below, h.keeps.trans k.keeps⟩
theorem Wk.of_below {B bb : Nat} {w w' : World} (hB : B ≤ w.heap.size) (h : Below w.heap.size w w') : Wk B bb w w' := ⟨h.mono hB, Keeps.below h⟩
theorem Wk.cs {B bb : Nat} {w w' : World} (h : Wk B bb w w') {b : Nat} {T : TypeId} {vs : List Value} (k : Cs b T vs w) (hT : T ≠ 5) (hb : b ≠ bb) : Cs b T vs w' := h.keeps b _ k hb (fun cs fr e => hT (by cases e; rfl))
theorem Wr.bb_lt {B wb bb : Nat} {bs : List UInt8} {w : World} (h : Wr B wb bb bs w) : bb < w.heap.size := by
  rcases h.hb with ⟨_, v, k, _⟩ | ⟨_, v, k, _⟩ <;> exact (Array.getElem?_eq_some_iff.1 k).1
theorem Wr.bbT {B wb bb : Nat} {bs : List UInt8} {w : World} (h : Wr B wb bb bs w) {T : TypeId} {vs : List Value} {b : Nat} (k : Cs b T vs w) (hT : T ≠ 108) : b ≠ bb := by
  rintro rfl
  rcases h.hb with ⟨_, v, k', _⟩ | ⟨_, v, k', _⟩ <;> (unfold Cs at k; rw [k'] at k; cases k; exact hT rfl)
theorem Wr.below {B wb bb : Nat} {bs : List UInt8} {w w' : World} (h : Wr B wb bb bs w) (k : Below w.heap.size w w') : Wr B wb bb bs w' := ⟨h.hw.keep (k.block wb h.hw.lt), BldS.is_below h.hb k, Nat.le_trans h.le k.size⟩
/-- A text is written. -/
theorem Wr.write {B wb bb : Nat} {bs : List UInt8} {w : World} (h : Wr B wb bb bs w) (c : List UInt8) (hl : bs.length + c.length ≤ 140737488355328) :
    Calls Tryz.prog 93 #[.pointer (some ⟨bb, 0, none⟩), .string ⟨c.toArray⟩] w fun e w' => (∃ z : Int, e = .returned (.tuple #[.int .i64 z, .nilIface])) ∧ Wr B wb bb (bs ++ c) w' ∧ Wk B bb w w' := by
  refine (BldS.writeStringK B bb _ ⟨c.toArray⟩ w h.hb (by rw [BldS.cells_len, size_mk]; exact hl) h.le).mono ?_
  rintro e w' ⟨rfl, h1, h2, h3⟩
  have k : Wk B bb w w' := ⟨h2, h3⟩
  refine ⟨⟨_, rfl⟩, ⟨k.cs h.hw (by decide) (h.bbT h.hw (by decide)), .inr ?_, Nat.le_trans h.le h2.size⟩, k⟩
  rw [BldS.cells_app]
  rw [BldS.cells_str] at h1
  exact h1
theorem Wr.byte {B wb bb : Nat} {bs : List UInt8} {w : World} (h : Wr B wb bb bs w) (c : UInt8) (hl : bs.length + 1 ≤ 140737488355328) :
    Calls Tryz.prog 100 #[.pointer (some ⟨bb, 0, none⟩), .int .u8 (c.toNat : Int)] w fun e w' => e = .returned .nilIface ∧ Wr B wb bb (bs ++ [c]) w' ∧ Wk B bb w w' := by
  refine (BldS.writeByteK B bb _ _ w h.hb (by rw [BldS.cells_len]; exact hl) h.le).mono ?_
  rintro e w' ⟨rfl, h1, h2, h3⟩
  have k : Wk B bb w w' := ⟨h2, h3⟩
  refine ⟨rfl, ⟨k.cs h.hw (by decide) (h.bbT h.hw (by decide)), .inr ?_, Nat.le_trans h.le h2.size⟩, k⟩
  rw [BldS.cells_app]
  exact h1
end Go.Proofs.YtgdoodeibcfcjaaGreat.Wire
