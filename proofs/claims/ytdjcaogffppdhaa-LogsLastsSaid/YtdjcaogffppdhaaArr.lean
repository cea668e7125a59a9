/- An array of bytes in a block of its own: what a walk asks of it. -/
import Derived.Test.YtdjcaogffppdhaaProg
import Derived.WalkKit
import Derived.Lib.LazyBuf
import Derived.Test.YtdjcaogffppdhaaSumPure
import Derived.Laws.BytesArg
set_option linter.unusedVariables false
namespace Go.Proofs.Ytdjcaogffppdhaa.Arr
open Go.RowKit Go.Proofs.Ytdjcaogffppdhaa.SumPure Go.Proofs.YtdjcaogffppdhaaW.PrintWords

/-- Block b holds the bytes l (numbers), as a variable of type T; none of it is frozen. -/
def Is (w : World) (b : Nat) (T : TypeId) (l : List Int) : Prop := w.heap[b]? = some (.cells ((l.map (Value.int .u8)).toArray) T (0, 0))
theorem Is.cell {w : World} {b : Nat} {T : TypeId} {l : List Int} (h : Is w b T l) (i : Nat) (hi : i < l.length) : w.cell? ⟨b, i, none⟩ = some (.int .u8 (l.getD i 0)) := by
  unfold Is at h
  simp [World.cell?, h, hi, List.getD_eq_getElem?_getD]
theorem Is.frozen {w : World} {b : Nat} {T : TypeId} {l : List Int} (h : Is w b T l) (i : Nat) : w.frozen? ⟨b, i, none⟩ = false := by
  unfold Is at h
  simp [World.frozen?, h]
theorem Is.lt {w : World} {b : Nat} {T : TypeId} {l : List Int} (h : Is w b T l) : b < w.heap.size := (Array.getElem?_eq_some_iff.1 h).1
theorem Is.set {w : World} {b : Nat} {T : TypeId} {l : List Int} (h : Is w b T l) (i : Nat) (x : Int) : Is (w.setCell ⟨b, i, none⟩ (.int .u8 x)) b T (l.set i x) := by
  unfold Is at *
  simp [World.setCell, Array.getElem?_modify, h, List.map_set]
def b8 (x : Int) : UInt8 := UInt8.ofNat (x % 256).toNat
theorem b8_int (x : Int) : ((b8 x).toNat : Int) = x % 256 := by
  unfold b8; rw [ofNat_toNat (by omega)]; omega
theorem Is.set8 {w : World} {b : Nat} {T : TypeId} {L : List UInt8} (h : Is w b T (ints L)) (i : Nat) (x : Int) : Is (w.setCell ⟨b, i, none⟩ (.int .u8 (x % 256))) b T (ints (L.set i (b8 x))) := by
  have h1 := h.set i (x % 256)
  rw [show (ints L).set i (x % 256) = ints (L.set i (b8 x)) from by unfold ints; rw [List.map_set, b8_int]] at h1
  exact h1
theorem Is.setV {w : World} {b : Nat} {T : TypeId} {L : List UInt8} (h : Is w b T (ints L)) (i : Nat) (x : Int) (h0 : 0 ≤ x) (h1 : x < 256) : Is (w.setCell ⟨b, i, none⟩ (.int .u8 x)) b T (ints (L.set i (b8 x))) := by
  have h2 := h.set8 i x
  rw [Int.emod_eq_of_lt h0 h1] at h2
  exact h2
theorem Is.drew {w : World} {b : Nat} {T : TypeId} {l : List Int} (h : Is w b T l) : Is w.drew b T l := h
theorem Is.alloc {w : World} {b : Nat} {T : TypeId} {l : List Int} (h : Is w b T l) (o : Obj) : Is (w.alloc o) b T l := by
  unfold Is
  rw [Below.heap_alloc w o b h.lt]
  exact h
theorem Is.below {w w' : World} {b : Nat} {T : TypeId} {l : List Int} (h : Is w b T l) (hb : Below w.heap.size w w') : Is w' b T l := by
  unfold Is
  rw [hb.block b h.lt]
  exact h
/-- A block that keeps what it holds while another is written. -/
theorem heap_setCell {w : World} {b : Nat} {o : Obj} (h : w.heap[b]? = some o) (a : Addr) (v : Value) (hne : a.block ≠ b) : (w.setCell a v).heap[b]? = some o := by
  rw [Below.heap_setCell w a v b (fun e => hne e.symm)]
  exact h
/-- Bytes laid one behind the other. -/
theorem Is.setCells {T : TypeId} {b : Nat} (d : List UInt8) : ∀ {w : World} {l : List Int} (i : Nat), Is w b T l → i + d.length ≤ l.length → Is (w.setCells b i (d.map fun x => Value.int .u8 (x.toNat : Int))) b T (l.take i ++ ints d ++ l.drop (i + d.length)) := by
  induction d with
  | nil => intro w l i h hl; simpa [World.setCells, ints] using h
  | cons c d ih =>
    intro w l i h hl
    have h1 := ih (i + 1) (h.set i (c.toNat : Int)) (by simp at hl ⊢; omega)
    have e : List.take (i + 1) (l.set i (c.toNat : Int)) ++ ints d ++ List.drop (i + 1 + d.length) (l.set i (c.toNat : Int)) = l.take i ++ ints (c :: d) ++ l.drop (i + (c :: d).length) := by
      simp only [List.length_cons] at hl ⊢
      rw [List.drop_set_of_lt (by omega), List.take_set, show i + 1 + d.length = i + (d.length + 1) from by omega]
      have : (l.take (i + 1)).set i (c.toNat : Int) = l.take i ++ [(c.toNat : Int)] := by
        rw [List.take_add_one, List.getElem?_eq_getElem (by omega), List.set_append_right _ _ (by rw [List.length_take]; omega)]
        rw [List.length_take, Nat.min_eq_left (by omega)]
        simp
      rw [this]
      simp [ints]
    rw [e] at h1
    exact h1
theorem heap_setCells {b : Nat} {o : Obj} (vs : List Value) : ∀ {w : World} (i c : Nat), w.heap[b]? = some o → c ≠ b → (w.setCells c i vs).heap[b]? = some o := by
  induction vs with
  | nil => intro w i c h _; exact h
  | cons v vs ih => intro w i c h hne; exact ih (i + 1) c (heap_setCell h ⟨c, i, none⟩ v hne) hne
/-- The first bytes of an array, as a string: 'string(b[:n])'. -/
theorem Is.string {P : Program} {w : World} {b : Nat} {T : TypeId} {L : List UInt8} (h : Is w b T (ints L)) {src dst e : TypeId} (hs : P.underlying src = some (.slice e)) (he : P.underlying e = some (.int .u8)) (hd : P.underlying dst = some .string)
    (n c : Nat) (hn : n ≤ L.length) (hm : L.length ≤ 9223372036854775807) : (convert src dst (.slice (some ⟨b, 0, none⟩) n c)).run P w = .ok (.string ⟨(L.take n).toArray⟩) w := by
  have hr : ReadsInt w .u8 (some ⟨b, 0, none⟩) n (ints (L.take n)) := by
    refine ⟨by rw [ints_len, List.length_take]; omega, by omega, fun hn0 => ⟨_, rfl, fun j hj => ?_⟩⟩
    rw [add_plain, h.cell j (by rw [ints_len]; omega)]
    simp [ints, List.getD_eq_getElem?_getD, hj]
  rw [string_of_reads hs he hd hr, str_ints]
end Go.Proofs.Ytdjcaogffppdhaa.Arr
