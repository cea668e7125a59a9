/- The calls of MediaPlays and MediaLasts among the arguments. -/
import Derived.Test.YtdjcaogffppdhaaArgsS
set_option linter.unusedVariables false
namespace Go.Proofs.Ytdjcaogffppdhaa.Args
open Go.RowKit Go.ChangeShapes Go.WideShapes Go.Deep Go.Proofs.Ytdjcaogffppdhaa.SumPure
def B64 (z : Int) : Prop := -9223372036854775808 ≤ z ∧ z ≤ 9223372036854775807
/-- A call in the list: its numbers, at the places where they stand. -/
structure OpAt (w : World) (x : Addr) (i : Nat) (z0 z1 z2 z3 : Int) (o : Bool) (z5 : Int) : Prop where
  c0 : w.cell? (x.add (i * 6)) = some (.int .i64 z0)
  c1 : w.cell? (x.add (i * 6 + 1)) = some (.int .i64 z1)
  c2 : w.cell? (x.add (i * 6 + 2)) = some (.int .i64 z2)
  c3 : w.cell? (x.add (i * 6 + 3)) = some (.int .i64 z3)
  c4 : w.cell? (x.add (i * 6 + 4)) = some (.bool o)
  c5 : w.cell? (x.add (i * 6 + 5)) = some (.int .i64 z5)
  b0 : B64 z0
  b1 : B64 z1
  b2 : B64 z2
  b3 : B64 z3
  b5 : B64 z5
structure HasOps (w : World) (a : Option Addr) (len : Nat) : Prop where
  le : len ≤ 9223372036854775807
  cell : 0 < len → ∃ x : Addr, a = some x ∧ x.block < w.heap.size ∧ ∀ i, i < len → ∃ z0 z1 z2 z3 o z5, OpAt w x i z0 z1 z2 z3 o z5
theorem OpAt.below {w w' : World} {x : Addr} {i : Nat} {z0 z1 z2 z3 : Int} {o : Bool} {z5 : Int} (h : OpAt w x i z0 z1 z2 z3 o z5) (q : Below w.heap.size w w') (hx : x.block < w.heap.size) : OpAt w' x i z0 z1 z2 z3 o z5 := by
  have k : ∀ m, w'.cell? (x.add m) = w.cell? (x.add m) := fun m => q.cell (p := x.add m) (by unfold Addr.add; split <;> exact hx)
  exact ⟨(k _).trans h.c0, (k _).trans h.c1, (k _).trans h.c2, (k _).trans h.c3, (k _).trans h.c4, (k _).trans h.c5, h.b0, h.b1, h.b2, h.b3, h.b5⟩
theorem HasOps.at {w : World} {a : Option Addr} {len : Nat} (h : HasOps w a len) {w' : World} (q : Below w.heap.size w w') {i : Nat} (hi : i < len) : ∃ x : Addr, a = some x ∧ ∃ z0 z1 z2 z3 o z5, OpAt w' x i z0 z1 z2 z3 o z5 := by
  obtain ⟨x, hx, hb, hc⟩ := h.cell (by omega)
  obtain ⟨z0, z1, z2, z3, o, z5, k⟩ := hc i hi
  exact ⟨x, hx, z0, z1, z2, z3, o, z5, k.below q hb⟩
theorem open_ops {H : Type} {enc : TypeId × Value → H} {W : World} {base : Nat} {held : Bool} {a : Option Addr} {len cap : Nat} {d : DataW H} {ps : List MemPlace}
    (h : DataW.Trod enc Try.prog W base (fun _ => true) held 32 (.slice a len cap) d ps) : HasOps W a len := by
  obtain ⟨fuel, hf⟩ := h
  rcases open_slice_fields Try.underlying32 Try.underlying36 (by kernel_rfl) (by kernel_rfl) hf with ⟨hcs, _⟩ | ⟨x, l, c, m, hcs, _, hl, hm, hz, hcell⟩
  · simp [Value.cells] at hcs
    obtain ⟨rfl, rfl, rfl⟩ := hcs
    exact ⟨by omega, fun h => absurd h (by omega)⟩
  · simp [Value.cells] at hcs
    obtain ⟨rfl, rfl, rfl⟩ := hcs
    simp only [if_true] at hz
    have hml : maxLen = 9223372036854775807 := rfl
    have key : ∀ i, i < len → ∃ z0 z1 z2 z3 o z5, OpAt W x i z0 z1 z2 z3 o z5 := fun i hi => by
      have hc := hcell i (by omega)
      obtain ⟨n0, v0, y0, k0, t0⟩ := hc 0 _ rfl
      obtain ⟨n1, v1, y1, k1, t1⟩ := hc 1 _ rfl
      obtain ⟨n2, v2, y2, k2, t2⟩ := hc 2 _ rfl
      obtain ⟨n3, v3, y3, k3, t3⟩ := hc 3 _ rfl
      obtain ⟨n4, v4, y4, k4, t4⟩ := hc 4 _ rfl
      obtain ⟨n5, v5, y5, k5, t5⟩ := hc 5 _ rfl
      obtain ⟨z0, e0, _, w0⟩ := DataW.trod_int Try.underlying3 t0
      obtain ⟨z1, e1, _, w1⟩ := DataW.trod_int Try.underlying3 t1
      obtain ⟨z2, e2, _, w2⟩ := DataW.trod_int Try.underlying3 t2
      obtain ⟨z3, e3, _, w3⟩ := DataW.trod_int Try.underlying3 t3
      obtain ⟨o, e4, _⟩ := DataW.trod_bool Try.underlying4 t4
      obtain ⟨z5, e5, _, w5⟩ := DataW.trod_int Try.underlying3 t5
      obtain rfl : v0 = .int .i64 z0 := by simpa using e0
      obtain rfl : v1 = .int .i64 z1 := by simpa using e1
      obtain rfl : v2 = .int .i64 z2 := by simpa using e2
      obtain rfl : v3 = .int .i64 z3 := by simpa using e3
      obtain rfl : v4 = .bool o := by simpa using e4
      obtain rfl : v5 = .int .i64 z5 := by simpa using e5
      exact ⟨z0, z1, z2, z3, o, z5, k0, k1, k2, k3, k4, k5, wf64 w0, wf64 w1, wf64 w2, wf64 w3, wf64 w5⟩
    refine ⟨by omega, fun hlen => ⟨x, rfl, ?_, key⟩⟩
    obtain ⟨z0, z1, z2, z3, o, z5, k⟩ := key 0 hlen
    have := block_lt_of_cell k.c0
    unfold Addr.add at this
    simpa using this
end Go.Proofs.Ytdjcaogffppdhaa.Args
