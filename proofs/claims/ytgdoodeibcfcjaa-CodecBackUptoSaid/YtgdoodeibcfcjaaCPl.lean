/- Of one claim's parts: CPlain, CPlainK, CPlainL, CPlainM, CPlainN, CPlainO. -/
import Derived.Test.YtgdoodeibcfcjaaCRLib
import Derived.Test.YtgdoodeibcfcjaaCRHouse
import Derived.Test.YtgdoodeibcfcjaaCSmall
import Derived.Test.YtgdoodeibcfcjaaCTJ
import Derived.OrdersHeld
import Derived.Great.BuildSlice
import Derived.Deep.AppendLies
import Derived.IntWalk
import Derived.Test.YtgdoodeibcfcjaaCMain
import Derived.Test.YtgdoodeibcfcjaaCSameA
import Derived.Great.Walk
set_option linter.unusedVariables false
set_option linter.unusedSimpArgs false
namespace Go.Proofs.Ytgdoodeibcfcjaa.Wire
open Go.RowKit Go.Proofs.Ytgdoodeibcfcjaa.NumsPure Go.Proofs.Ytgdoodeibcfcjaa.CPure Go.Proofs.Ytgdoodeibcfcjaa.Own
/-! ### The append of numbers -/
theorem fill_ints (vs : List Value) (h1 : ∀ v ∈ vs, v.cells = #[v]) (cells : Array Value) (hc : cells.size = vs.length) : Instr.fill (fun i => some (i * 1, 1)) cells ((vs.zipIdx 0).map fun x => (x.2, x.1)) = some vs.toArray := by
  obtain ⟨r, e1, e2, e3⟩ := Great.fill_dense (s := 1) (by decide) vs 0 cells (fun v hv => by rw [h1 v hv]; rfl) (by omega)
  rw [e1]
  congr 1
  apply Array.ext_getElem?
  intro j
  rw [e3 j]
  by_cases hj : j < vs.length
  · rw [if_pos (by omega)]
    have hm : vs[j] ∈ vs := List.getElem_mem hj
    simp [hj, h1 _ hm, Nat.mod_one]
  · rw [if_neg (by omega), Array.getElem?_eq_none (by omega), Array.getElem?_eq_none (by simp; omega)]
structure TailOps (m d0 k : Nat) (parts : Array (Nat × Operand)) (t1 t2 t3 : Oper) : Prop where
  g1 : t1.guard = none
  g2 : t2.guard = none
  g3 : t3.guard = none
  p1 : t1.op = .buildSlice 42 k parts
  p2 : t2.op = .call { callee := .builtin .append, args := #[.tmp d0, .tmp m], argTypes := #[42, 42] }
  p3 : t3.op = .assign (.tmp (m + 1))
  d1 : t1.dst = some m
  d2 : t2.dst = some (m + 1)
  d3 : t3.dst = some 3
/-- The list of numbers that has been gathered. -/
structure Gat (B : Nat) (L : List Value) (v : Value) (w0 w : World) : Prop where
  own : w.ownsRow B 3 1 v L.length L
  int : ∀ u ∈ L, ∃ z, u = .int .i64 z
  below : Below B w0 w
theorem info_intP : (Try.prog.info? 3).map (fun i => (i.zero, i.size, i.bytes)) = some (some (.int .i64 0), 1, 8) := by kernel_rfl
/-- Three operations, one behind the other; S holds behind each. -/
def Tail3 (S : World → Prop) (Q : Exit → Act → World → Prop) (t1 t2 t3 : Oper) (a : Act) (w : World) : Prop :=
  t1.wp Try.prog a w (fun a1 w1 => S w1 ∧ t2.wp Try.prog a1 w1 (fun a2 w2 => S w2 ∧ t3.wp Try.prog a2 w2 (fun a3 w3 => S w3 ∧ Q .normal a3 w3) Q) Q) Q
theorem Tail3.list {S : World → Prop} {Q : Exit → Act → World → Prop} {t1 t2 t3 : Oper} {a : Act} {w : World} {ops : Array Oper} (g1 : t1.guard = none) (g2 : t2.guard = none) (g3 : t3.guard = none) (h : Tail3 S Q t1 t2 t3 a w) : wpList Try.prog ops Q [t1, t2, t3] a w :=
  wpList_plain g1 fun _ k1 => Oper.wp_mono (fun a1 w1 h1 => k1 _ _ (wpList_plain g2 fun _ k2 => Oper.wp_mono (fun a2 w2 h2 => k2 _ _ (wpList_plain g3 fun _ k3 => Oper.wp_mono (fun a3 w3 h3 => k3 _ _ (wpList_nil h3.2)) h2.2)) h1.2)) h
/-- What stands outside a list's own block has stayed. -/
structure Keep (v : Value) (w0 w : World) : Prop where
  size : w0.heap.size ≤ w.heap.size
  block : ∀ b, b < w0.heap.size → v.ownBlock ≠ some b → w.heap[b]? = w0.heap[b]?
theorem Keep.refl (v : Value) (w : World) : Keep v w w := ⟨Nat.le_refl _, fun _ _ _ => rfl⟩
theorem Keep.alloc {v : Value} {w0 w : World} (h : Keep v w0 w) (o : Obj) : Keep v w0 (w.alloc o) := ⟨Nat.le_trans h.size (by simp), fun b hb hn => (Below.heap_alloc w o b (Nat.lt_of_lt_of_le hb h.size)).trans (h.block b hb hn)⟩
theorem Keep.grown {v : Value} {w0 w w' : World} (h : Keep v w0 w) (hg : w.grownBy w' v.ownBlock) : Keep v w0 w' := ⟨Nat.le_trans h.size hg.size, fun b hb hn => (hg.block b (Nat.lt_of_lt_of_le hb h.size) (fun e => hn e.symm)).trans (h.block b hb hn)⟩
theorem Keep.cell {v u : Value} {w0 w : World} {p : Addr} (h : Keep v w0 w) (hn : v.ownBlock ≠ some p.block) (hc : w0.cell? p = some u) : w.cell? p = some u :=
  (World.cell?_of_block (h.block p.block (World.block_lt_of_cell? w0 p hc) hn)).trans hc
theorem tail_stepH {m d0 : Nat} {parts : Array (Nat × Operand)} {t1 t2 t3 : Oper} {B : Nat} {L vs : List Value} {v : Value} {w0 : World} {a : Act} {w : World} {Q : Exit → Act → World → Prop} {u0 : World} (hK : Keep v u0 w) (ho : TailOps m d0 vs.length parts t1 t2 t3) (hm : 22 ≤ m) (hz : m + 1 < a.tmps.size) (hd0 : d0 < m) (hv0 : 0 < vs.length) (hv5 : vs.length ≤ 5)
    (hpa : (parts.map fun (i, x) => (i, a.eval x)).toList = (vs.zipIdx 0).map fun x => (x.2, x.1)) (hvi : ∀ u ∈ vs, ∃ z, u = .int .i64 z) (h3 : a.eval (.tmp d0) = v) (hG : Gat B L v w0 w) (hB : B ≤ w.heap.size) (hL : L.length ≤ 1000000000000)
    (h : ∀ a' w' v', Lo 3 a a' → (∀ s : Nat, s < 22 → s ≠ 3 → a'.eval (.tmp s) = a.eval (.tmp s)) → a'.eval (.tmp 3) = v' → Gat B (L ++ vs) v' w0 w' → (∀ b T y, Cs b T y w → T ≠ 3 → Cs b T y w') → Q .normal a' w') : Tail3 (Keep v u0) Q t1 t2 t3 a w := by
  obtain ⟨i0, hI0, hz0, hz1, hz2⟩ := infoParts info_intP
  have hone : ∀ u ∈ vs, u.oneCell' = true := fun u hu => by obtain ⟨z, rfl⟩ := hvi u hu; rfl
  have hcells : ∀ u ∈ vs, u.cells = #[u] := fun u hu => by obtain ⟨z, rfl⟩ := hvi u hu; rfl
  unfold Tail3
  refine Go.wp_buildSlice 42 3 vs.length parts ho.p1 vs.toArray i0 _ Try.underlying42 hI0 hz0 (by rw [hz1]; omega) (by rw [hz1]; omega) ?_ ⟨hK.alloc _, ?_⟩
  · rw [hpa, hz1]
    exact fill_ints vs hcells _ (by simp)
  rw [ho.d1]
  have v1 : (a.put (some m) (.slice (some ⟨w.heap.size, 0, none⟩) vs.length vs.length)).eval (.tmp m) = .slice (some ⟨w.heap.size, 0, none⟩) vs.length vs.length := put_same _ (by omega)
  have v1b : (a.put (some m) (.slice (some ⟨w.heap.size, 0, none⟩) vs.length vs.length)).eval (.tmp d0) = v := (put_other _ (by omega)).trans h3
  have hk1 : ∀ s : Nat, s < 22 → (a.put (some m) (.slice (some ⟨w.heap.size, 0, none⟩) vs.length vs.length)).eval (.tmp s) = a.eval (.tmp s) := fun s hs => put_other _ (by omega)
  have hs1 := put_size a (some m) (.slice (some ⟨w.heap.size, 0, none⟩) vs.length vs.length)
  have hdf1 := put_defers a (some m) (.slice (some ⟨w.heap.size, 0, none⟩) vs.length vs.length)
  generalize a.put (some m) (.slice (some ⟨w.heap.size, 0, none⟩) vs.length vs.length) = a1 at v1 v1b hk1 hs1 hdf1
  refine wp_append_lies _ (.tmp d0) (.tmp m) 42 ho.p2 B 3 i0 _ 1 8 Try.underlying42 hI0 hz0 hz1 hz2 (by rfl) (by decide) v L.length L v1b (hG.own.alloc _) ⟨w.heap.size, 0, none⟩ vs.length vs.length vs v1 (by omega)
    (World.news_of_block (cs := vs.toArray) (t := 3) (fr := (0, 0)) (heap_alloc_new w _)) hone (by omega) (by unfold maxLen; omega) (by omega) (by simp; omega) (w.heap.size + 1) (by simp) ?_
  intro gg cap wB hown hgrow hat hlt
  refine ⟨(hK.alloc _).grown hgrow, ?_⟩
  rw [ho.d2]
  have v2 : (a1.put (some (m + 1)) (.slice (some ⟨gg, 0, none⟩) (L.length + vs.length) cap)).eval (.tmp (m + 1)) = .slice (some ⟨gg, 0, none⟩) (L.length + vs.length) cap := put_same _ (by rw [hs1]; omega)
  have hk2 : ∀ s : Nat, s < 22 → (a1.put (some (m + 1)) (.slice (some ⟨gg, 0, none⟩) (L.length + vs.length) cap)).eval (.tmp s) = a.eval (.tmp s) := fun s hs => (put_other _ (by omega)).trans (hk1 s hs)
  have hs2 := (put_size a1 (some (m + 1)) (.slice (some ⟨gg, 0, none⟩) (L.length + vs.length) cap)).trans hs1
  have hdf2 := (put_defers a1 (some (m + 1)) (.slice (some ⟨gg, 0, none⟩) (L.length + vs.length) cap)).trans hdf1
  generalize a1.put (some (m + 1)) (.slice (some ⟨gg, 0, none⟩) (L.length + vs.length) cap) = a2 at v2 hk2 hs2 hdf2
  have hrun : (execOp a2.eval t3).run Try.prog wB = .ok (.value (a2.eval (.tmp (m + 1)))) wB := by unfold execOp; rw [ho.p3]; rfl
  unfold Oper.wp
  rw [hrun, Oper.upon_value, ho.d3, v2]
  refine ⟨(hK.alloc _).grown hgrow, ?_⟩
  refine (h _ wB _ ⟨(put_size _ _ _).trans hs2, (put_defers _ _ _).trans hdf2, fun s hs => (put_other _ (by omega)).trans (hk2 s (by omega))⟩ (fun s hs hn => (put_other _ hn).trans (hk2 s hs)) (put_same _ (by rw [hs2]; omega)) ⟨?_, fun u hu => ?_, ?_⟩ fun b T y hy hT => ?_)
  · rw [List.length_append]; exact hown
  · rcases List.mem_append.1 hu with q | q
    · exact hG.int u q
    · exact hvi u q
  · exact (hG.below.alloc hB _).grown hgrow (by simp; omega) (fun k hk => (hG.own.lt k hk).1)
  · have hy' := Cs.keep hy ((alloc_below w (.cells vs.toArray 3)).block b hy.lt)
    refine Cs.keep hy' (hgrow.block b hy'.lt fun e => ?_)
    rcases hG.own.2 with ⟨q, _⟩ | ⟨g, cap, cur, q, _, hg, _⟩
    · rw [q] at e; cases e
    · rw [q] at e
      have e' : b = g := by simpa [Value.ownBlock] using e
      subst e'
      unfold Cs at hy
      rw [hg] at hy
      exact hT (by cases hy; rfl)
theorem tail_step {m d0 : Nat} {parts : Array (Nat × Operand)} {t1 t2 t3 : Oper} {ops : Array Oper} {B : Nat} {L vs : List Value} {v : Value} {w0 : World} {a : Act} {w : World} {Q : Exit → Act → World → Prop} (ho : TailOps m d0 vs.length parts t1 t2 t3) (hm : 22 ≤ m) (hz : m + 1 < a.tmps.size) (hd0 : d0 < m) (hv0 : 0 < vs.length) (hv5 : vs.length ≤ 5)
    (hpa : (parts.map fun (i, x) => (i, a.eval x)).toList = (vs.zipIdx 0).map fun x => (x.2, x.1)) (hvi : ∀ u ∈ vs, ∃ z, u = .int .i64 z) (h3 : a.eval (.tmp d0) = v) (hG : Gat B L v w0 w) (hB : B ≤ w.heap.size) (hL : L.length ≤ 1000000000000)
    (h : ∀ a' w' v', Lo 3 a a' → (∀ s : Nat, s < 22 → s ≠ 3 → a'.eval (.tmp s) = a.eval (.tmp s)) → a'.eval (.tmp 3) = v' → Gat B (L ++ vs) v' w0 w' → (∀ b T y, Cs b T y w → T ≠ 3 → Cs b T y w') → Q .normal a' w') : wpList Try.prog ops Q [t1, t2, t3] a w :=
  (tail_stepH (Keep.refl v w) ho hm hz hd0 hv0 hv5 hpa hvi h3 hG hB hL h).list ho.g1 ho.g2 ho.g3
end Go.Proofs.Ytgdoodeibcfcjaa.Wire
namespace Go.Proofs.Ytgdoodeibcfcjaa.Wire
open Go.RowKit Go.Proofs.Ytgdoodeibcfcjaa.NumsPure Go.Proofs.Ytgdoodeibcfcjaa.CPure Go.Proofs.Ytgdoodeibcfcjaa.Own
/-- An operation that only reads, and the same in all these worlds. -/
structure Rdo (S : World → Prop) (o : Oper) (a : Act) (v : Value) : Prop where
  g : o.guard = none
  run : ∀ w, S w → (execOp a.eval o).run Try.prog w = .ok (.value v) w
/-- What can be carried over an operation that only reads. -/
def Runs (S : World → Prop) (F : List Oper → Act → Prop) : Prop := ∀ (o : Oper) (rest : List Oper) (a : Act) (v : Value), Rdo S o a v → F rest (a.put o.dst v) → F (o :: rest) a
theorem runs_list {w : World} {ops : Array Oper} {Q : Exit → Act → World → Prop} : Runs (· = w) (fun l a => wpList Try.prog ops Q l a w) := fun o rest a v h k => wpList_run h.g v (h.run w rfl) k
/-- Readings, one by one. -/
def wpHd (S : World → Prop) (Q : Act → Prop) : List Oper → Act → Prop
  | [], a => Q a
  | o :: l, a => ∃ v, Rdo S o a v ∧ wpHd S Q l (a.put o.dst v)
theorem runs_held {S : World → Prop} {Q : Act → Prop} : Runs S (fun l a => wpHd S Q l a) := fun o rest a v h k => ⟨v, h, k⟩
theorem at_eq {w : World} {p : Addr} {u : Value} (h : w.cell? p = some u) : ∀ w1, w1 = w → w1.cell? p = some u := fun _ e => e ▸ h
theorem at_keep {v u : Value} {w : World} {p : Addr} (hn : v.ownBlock ≠ some p.block) (h : w.cell? p = some u) : ∀ w1, Keep v w w1 → w1.cell? p = some u := fun _ k => k.cell hn h
/-- A panic's state is what it was, whatever slot was written. -/
def PutOk (Q : Exit → Act → World → Prop) : Prop := ∀ c a d v w, Q (.panic c) (a.put d v) w → Q (.panic c) a w
theorem PutOk.block {b : Nat} {Q : Exit → Act → World → Prop} (h : PutOk Q) : PutOk (Exit.inBlock b Q) := fun c a d v w k => h c a d v w k
theorem PutOk.then_ {K : Act → World → Prop} {Q : Exit → Act → World → Prop} (h : PutOk Q) : PutOk (Exit.then K Q) := fun c a d v w k => h c a d v w k
/-- The closed part: f readings may be taken in their order, then three operations come one behind the other. -/
def headB (ops : Array Oper) : Nat → Nat → Array Bool → Bool
  | 0, k, l => decide (Region.ready .any ops l = [k]) && decide (Region.ready .any ops (l.setIfInBounds k true) = [k + 1]) && decide (Region.ready .any ops ((l.setIfInBounds k true).setIfInBounds (k + 1) true) = [k + 2]) && decide (Region.ready .any ops (((l.setIfInBounds k true).setIfInBounds (k + 1) true).setIfInBounds (k + 2) true) = [])
  | f + 1, k, l => (Region.ready .any ops l).contains k && Region.free .any ops l k && headB ops f (k + 1) (l.setIfInBounds k true)
theorem wpAnyH_one {S : World → Prop} {ops : Array Oper} {Q : Exit → Act → World → Prop} {k fuel : Nat} {o : Oper} {listed : Array Bool} {a : Act} {w : World} (ho : ops[k]? = some o) (hg : o.guard = none) (hr : Region.ready .any ops listed = [k])
    (h : o.wp Try.prog a w (fun a' w' => S w' ∧ wpAnyH Try.prog .any ops Q S fuel (listed.setIfInBounds k true) a' w') Q) : wpAnyH Try.prog .any ops Q S (fuel + 1) listed a w := by
  refine wpAnyH_all hr (by simp) fun i hi => ?_
  obtain rfl : i = k := by simpa using hi
  unfold wpOp
  rw [ho]
  simp only [Region.wanted, hg, if_true]
  exact .inl h
theorem held_go {S : World → Prop} {ops : Array Oper} {Q : Exit → Act → World → Prop} {t1 t2 t3 : Oper} {w : World} (hQ : PutOk Q) (hs : Region.noSelect ops = true) (hS : S w) (g1 : t1.guard = none) (g2 : t2.guard = none) (g3 : t3.guard = none) :
    ∀ (heads : List Oper) (k : Nat) (listed : Array Bool) (a : Act), (∀ j, (heads ++ [t1, t2, t3])[j]? = ops[k + j]?) → headB ops heads.length k listed = true → wpHd S (fun a' => Tail3 S Q t1 t2 t3 a' w) heads a → wpAnyH Try.prog .any ops Q S (heads.length + 3) listed a w
  | [], k, listed, a, hl, hB, h => by
    simp only [headB, List.length_nil, Bool.and_eq_true, decide_eq_true_eq] at hB
    obtain ⟨⟨⟨r1, r2⟩, r3⟩, r4⟩ := hB
    have o1 : ops[k]? = some t1 := by simpa using (hl 0).symm
    have o2 : ops[k + 1]? = some t2 := by simpa using (hl 1).symm
    have o3 : ops[k + 2]? = some t3 := by simpa using (hl 2).symm
    have h : Tail3 S Q t1 t2 t3 a w := h
    unfold Tail3 at h
    refine wpAnyH_one o1 g1 r1 (Oper.wp_mono (fun a1 w1 h1 => ⟨h1.1, wpAnyH_one o2 g2 r2 (Oper.wp_mono (fun a2 w2 h2 => ⟨h2.1, wpAnyH_one o3 g3 r3 (Oper.wp_mono (fun a3 w3 h3 => ⟨h3.1, wpAnyH_done r4 h3.2 _⟩) h2.2)⟩) h1.2)⟩) h)
  | o :: heads, k, listed, a, hl, hB, h => by
    simp only [headB, List.length_cons, Bool.and_eq_true] at hB
    obtain ⟨⟨r1, r2⟩, r3⟩ := hB
    obtain ⟨v, hv, h⟩ := h
    have o1 : ops[k]? = some o := by simpa using (hl 0).symm
    show wpAnyH _ _ _ _ _ (heads.length + 1 + 3) _ _ _
    rw [show heads.length + 1 + 3 = (heads.length + 3) + 1 by omega]
    exact wpAnyH_take o1 hs r2 r1 (fun c a w => hQ c a _ _ w) (.inl ⟨by simp [Region.wanted, hv.g], hv.run⟩) hS (held_go hQ hs hS g1 g2 g3 heads (k + 1) _ _ (fun j => by have := hl (j + 1); simpa [Nat.add_assoc, Nat.add_comm 1 j] using this) r3 h)
/-- A region that draws its order: readings, and a tail of three. -/
theorem held_region {S : World → Prop} {id : Nat} {Q : Exit → Act → World → Prop} {t1 t2 t3 : Oper} {heads : List Oper} {a : Act} {w : World} (hQ : PutOk Q) (hm : Try.prog.follows .mixedOrders = true) (hB : (Region.noSelect (heads ++ [t1, t2, t3]).toArray && headB (heads ++ [t1, t2, t3]).toArray heads.length 0 (Array.replicate (heads.length + 3) false)) = true) (g1 : t1.guard = none) (g2 : t2.guard = none) (g3 : t3.guard = none) (hS : S w.drew)
    (h : wpHd S (fun a' => Tail3 S Q t1 t2 t3 a' w.drew) heads a) : (Code.region id (heads ++ [t1, t2, t3]).toArray true).wp Try.prog Q a w := by
  simp only [Bool.and_eq_true] at hB
  have e : (heads ++ [t1, t2, t3]).toArray.size = heads.length + 3 := by simp
  refine wp_region_held (S := S) hm ?_
  rw [e]
  exact held_go hQ hB.1 hS g1 g2 g3 heads 0 _ a (fun j => by simp) hB.2 h
section
variable {S : World → Prop} {F : List Oper → Act → Prop} {rest : List Oper} {o : Oper} {a : Act} {d : Nat}
theorem out (hF : Runs S F) (g : o.guard = none) (hd : o.dst = some d) (hz : d < a.tmps.size) (v : Value) (hr : ∀ w, S w → (execOp a.eval o).run Try.prog w = .ok (.value v) w) (h : ∀ a', Lo d a a' → a'.eval (.tmp d) = v → F rest a') : F (o :: rest) a := by
  refine hF o rest a v ⟨g, hr⟩ ?_
  rw [hd]
  exact h _ ((Lo.refl d a).put (d := d) v (Nat.le_refl _)) (put_same _ hz)
theorem fa_c (hF : Runs S F) {T : TypeId} {s f off : Nat} {b : Addr} (g : o.guard = none) (p : o.op = .fieldAddr T (.tmp s) f) (hd : o.dst = some d) (hz : d < a.tmps.size) (hs : a.eval (.tmp s) = .pointer (some b)) (hfa : ∀ w, (Instr.fieldAt T (.pointer (some b)) f).run Try.prog w = .ok (.pointer (some (b.add off))) w)
    (h : ∀ a', Lo d a a' → a'.eval (.tmp d) = .pointer (some (b.add off)) → F rest a') : F (o :: rest) a :=
  out hF g hd hz _ (fun w _ => by unfold execOp; simp only [p, hs, Sem.run_bind, hfa, Result.andThen_ok, Sem.run_pure]) h
theorem mv_c (hF : Runs S F) {s : Nat} {v : Value} (g : o.guard = none) (p : o.op = .move (.tmp s)) (hd : o.dst = some d) (hz : d < a.tmps.size) (hs : a.eval (.tmp s) = v) (h : ∀ a', Lo d a a' → a'.eval (.tmp d) = v → F rest a') : F (o :: rest) a :=
  out hF g hd hz _ (fun w _ => by unfold execOp; simp only [p, hs, Sem.run_pure]) h
theorem ix_c (hF : Runs S F) {T : TypeId} {s t i sz : Nat} {x : Value} {b : Addr} (g : o.guard = none) (p : o.op = .indexAddr T (.tmp s) (.tmp t)) (hd : o.dst = some d) (hz : d < a.tmps.size) (hs : a.eval (.tmp s) = x) (ht : a.eval (.tmp t) = .int .i64 (i : Int)) (hix : ∀ w, (Instr.indexAt T x (.int .i64 (i : Int))).run Try.prog w = .ok (.pointer (some (b.add (i * sz)))) w)
    (h : ∀ a', Lo d a a' → a'.eval (.tmp d) = .pointer (some (b.add (i * sz))) → F rest a') : F (o :: rest) a :=
  out hF g hd hz _ (fun w _ => by unfold execOp; simp only [p, hs, ht, Sem.run_bind, hix, Result.andThen_ok, Sem.run_pure]) h
theorem ld_c (hF : Runs S F) {T : TypeId} {s : Nat} {v : Value} {b : Addr} (g : o.guard = none) (p : o.op = .load T (.tmp s)) (hd : o.dst = some d) (hz : d < a.tmps.size) (hs : a.eval (.tmp s) = .pointer (some b)) (hag : ∀ w, (isAgg T).run Try.prog w = .ok false w) (hc : ∀ w, S w → w.cell? b = some v)
    (h : ∀ a', Lo d a a' → a'.eval (.tmp d) = v → F rest a') : F (o :: rest) a :=
  out hF g hd hz _ (fun w hw => by unfold execOp; simp only [p, hs]; simp [Instr.loadAt, Instr.sureAddr, loadVar, Sem.run_bind, hag, run_load, hc w hw]) h
end
end Go.Proofs.Ytgdoodeibcfcjaa.Wire
namespace Go.Proofs.Ytgdoodeibcfcjaa.Wire
open Go.RowKit Go.Proofs.Ytgdoodeibcfcjaa.NumsPure Go.Proofs.Ytgdoodeibcfcjaa.CPure Go.Proofs.Ytgdoodeibcfcjaa.Own
/-- A loop that counts up to n; the state is a predicate of frame and world. -/
theorem up_loop {ct hs n b b1 : Nat} {startC headC body incC : Code} (St : Nat → Act → World → Prop) (Mid : Nat → Act → World → Prop) {S0 : Act → World → Prop}
    (hstart : ∀ a w Q, S0 a w → (∀ a', St 0 a' w → a'.eval (.tmp ct) = .int .i64 ((0 : Nat) : Int) → Q .normal a' w) → startC.wp Try.prog Q a w)
    (hhead : ∀ a w i Q, i ≤ n → St i a w → a.eval (.tmp ct) = .int .i64 (i : Int) → (∀ a', St i a' w → a'.eval (.tmp ct) = .int .i64 (i : Int) → a'.eval (.tmp hs) = .bool (decide (i < n)) → Q .normal a' w) → headC.wp Try.prog Q a w)
    (hbody : ∀ a w i Q, PutOk Q → i < n → St i a w → a.eval (.tmp ct) = .int .i64 (i : Int) → (∀ a' w', Mid i a' w' → a'.eval (.tmp ct) = .int .i64 (i : Int) → Q .normal a' w') → body.wp Try.prog Q a w)
    (hinc : ∀ a w i Q, i < n → Mid i a w → a.eval (.tmp ct) = .int .i64 (i : Int) → (∀ a', St (i + 1) a' w → a'.eval (.tmp ct) = .int .i64 ((i + 1 : Nat) : Int) → Q .normal a' w) → incC.wp Try.prog Q a w)
    {a : Act} {w : World} {Q : Exit → Act → World → Prop} (hQ : PutOk Q) (h0 : S0 a w) (h : ∀ a' w', St n a' w' → Q .normal a' w') :
    (Code.seq startC (Code.block b (Code.loop (Code.seq (Code.seq headC (Code.cond (.tmp hs) Code.skip (Code.exit b))) (Code.seq (Code.block b1 body) incC))))).wp Try.prog Q a w := by
  refine wp_seq (hstart a w _ h0 fun a1 s1 c1 => ?_)
  show Code.wp _ (Code.block _ _) _ a1 w
  refine wp_block ?_
  refine wp_loop (fun a w => ∃ i : Nat, i ≤ n ∧ St i a w ∧ a.eval (.tmp ct) = .int .i64 (i : Int)) (fun a _ => n - (intOf (a.eval (.tmp ct))).toNat) ⟨0, by omega, s1, c1⟩ ?_
  rintro a w ⟨i, hi, hs', hc⟩
  refine wp_seq (wp_seq (hhead a w i _ hi hs' hc fun a2 s2 c2 v2 => ?_))
  show Code.wp _ (Code.cond _ _ _) _ a2 w
  by_cases hlt : i < n
  · refine wp_cond_true (by rw [v2]; simp [hlt]) (wp_skip ?_)
    show Code.wp _ (Code.seq _ _) _ a2 w
    refine wp_seq (wp_block (hbody a2 w i _ (PutOk.block (PutOk.then_ (PutOk.then_ (PutOk.block hQ)))) hlt s2 c2 fun a3 w3 s3 c3 => ?_))
    show Code.wp _ incC _ a3 w3
    refine hinc a3 w3 i _ hlt s3 c3 fun a4 s4 c4 => ?_
    refine ⟨⟨i + 1, by omega, s4, c4⟩, ?_⟩
    rw [c4, hc]
    simp only [intOf]
    omega
  · obtain rfl : n = i := by omega
    refine wp_cond_false (by rw [v2]; simp) (wp_exit ?_)
    show Exit.inBlock b Q (.exit b) a2 w
    simp only [Exit.inBlock, if_true]
    exact h a2 w s2
end Go.Proofs.Ytgdoodeibcfcjaa.Wire
namespace Go.Proofs.Ytgdoodeibcfcjaa.Wire
open Go.RowKit Go.Proofs.Ytgdoodeibcfcjaa.NumsPure Go.Proofs.Ytgdoodeibcfcjaa.CPure Go.Proofs.Ytgdoodeibcfcjaa.Own
/-- The slots that every loop keeps. -/
structure PF (hb : Nat) (v : Value) (a : Act) : Prop where
  size : a.tmps.size = 329
  defers : a.defers = []
  s1 : a.eval (.tmp 1) = .pointer (some ⟨hb, 0, none⟩)
  s3 : a.eval (.tmp 3) = v
theorem PF.lo {hb d : Nat} {v : Value} {a a' : Act} (h : PF hb v a) (l : Lo d a a') (hd : 4 ≤ d) : PF hb v a' := ⟨l.size.trans h.size, l.defers.trans h.defers, (l.low 1 (by omega)).trans h.s1, (l.low 3 (by omega)).trans h.s3⟩
theorem PF.put {hb d : Nat} {v : Value} {a : Act} (h : PF hb v a) (u : Value) (hd : 4 ≤ d) : PF hb v (a.put (some d) u) := ⟨(put_size _ _ _).trans h.size, (put_defers _ _ _).trans h.defers, (put_other u (by omega)).trans h.s1, (put_other u (by omega)).trans h.s3⟩
/-- The frame, and the numbers gathered so far. -/
def PS (W : World) (hb : Nat) (L : List Value) (a : Act) (w : World) : Prop := ∃ v, PF hb v a ∧ Gat W.heap.size L v W w
theorem PS.lo {W w : World} {hb d : Nat} {L : List Value} {a a' : Act} (h : PS W hb L a w) (l : Lo d a a') (hd : 4 ≤ d) : PS W hb L a' w := by
  obtain ⟨v, h1, h2⟩ := h
  exact ⟨v, h1.lo l hd, h2⟩
theorem PS.put {W w : World} {hb d : Nat} {L : List Value} {a : Act} (h : PS W hb L a w) (u : Value) (hd : 4 ≤ d) : PS W hb L (a.put (some d) u) w := by
  obtain ⟨v, h1, h2⟩ := h
  exact ⟨v, h1.put u hd, h2⟩
/-- The first i things' numbers lie in the list. -/
def Cov (offs : List Nat) (L : List Value) (rows : List (List Value)) (i : Nat) : Prop := ∀ k x, k < i → rows[k]? = some x → ∀ m ∈ offs, ∀ z : Int, x[m]? = some (.int .i64 z) → Value.int .i64 z ∈ L
theorem Cov.more {offs : List Nat} {L L' : List Value} {rows : List (List Value)} {i : Nat} (h : Cov offs L rows i) : Cov offs (L ++ L') rows i := fun k x hk hx m hm z hz => List.mem_append_left _ (h k x hk hx m hm z hz)
theorem Cov.zero {offs : List Nat} {L : List Value} {rows : List (List Value)} : Cov offs L rows 0 := fun k x hk => absurd hk (by omega)
theorem Cov.succ {offs : List Nat} {L : List Value} {rows : List (List Value)} {i : Nat} {x : List Value} (h : Cov offs L rows i) (hx : rows[i]? = some x) (hn : ∀ m ∈ offs, ∀ z : Int, x[m]? = some (.int .i64 z) → Value.int .i64 z ∈ L) : Cov offs L rows (i + 1) := fun k y hk hy m hm z hz => by
  by_cases e : k = i
  · subst e
    rw [hx] at hy
    obtain rfl : x = y := by simpa using hy
    exact hn m hm z hz
  · exact h k y (by omega) hy m hm z hz
def offsJ (j : Nat) : List Nat := ([[2, 4, 6, 8, 9, 10], [2], [], [2, 3, 4, 5, 6], [3, 4, 5], [2], [3, 4, 5, 6, 7, 9, 10, 11, 12, 13, 15, 16, 17, 18, 19, 21, 22, 23, 24, 25, 27, 28, 29, 30, 31, 33, 34, 35, 36, 37, 39, 40, 41, 42, 43, 45, 46, 47, 48, 49], [3, 4, 5, 6, 7, 9, 10, 11, 12, 13, 15, 16, 17, 18, 19, 21, 22, 23, 24, 25, 27, 28, 29, 30, 31, 33, 34, 35, 36, 37, 39, 40, 41, 42, 43, 45, 46, 47, 48, 49], [1, 5, 6, 7], [0, 1, 3, 7, 9], [], [3, 4], [3, 4], [2, 3, 4, 5]] : List (List Nat)).getD j []
def isN : K → Bool
  | .n => true
  | _ => false
theorem offs_all : ∀ j, j < 14 → ∀ m k, (ksJ j)[m]? = some k → isN k = true → m ∈ offsJ j := by
  have key : ∀ j, j < 14 → ((List.range (ksJ j).length).all fun m => !(((ksJ j)[m]?.map isN).getD false) || (offsJ j).contains m) = true := by
    intro j hj
    have : j = 0 ∨ j = 1 ∨ j = 2 ∨ j = 3 ∨ j = 4 ∨ j = 5 ∨ j = 6 ∨ j = 7 ∨ j = 8 ∨ j = 9 ∨ j = 10 ∨ j = 11 ∨ j = 12 ∨ j = 13 := by omega
    rcases this with rfl | rfl | rfl | rfl | rfl | rfl | rfl | rfl | rfl | rfl | rfl | rfl | rfl | rfl <;> decide +kernel
  intro j hj m k hm hk
  have h1 := List.all_eq_true.1 (key j hj) m (List.mem_range.2 (List.getElem?_eq_some_iff.1 hm).1)
  rw [hm] at h1
  simpa [hk] using h1
end Go.Proofs.Ytgdoodeibcfcjaa.Wire
namespace Go.Proofs.Ytgdoodeibcfcjaa.Wire
open Go.RowKit Go.Proofs.Ytgdoodeibcfcjaa.NumsPure Go.Proofs.Ytgdoodeibcfcjaa.CPure Go.Proofs.Ytgdoodeibcfcjaa.Own
/-- The house that plain looks at. -/
structure HW (W : World) (hb : Nat) (vs : List Value) (R : Nat → List (List Value)) (z : Int) : Prop where
  cs : Cs hb 37 vs W
  ha : HouseA W vs R z
  cells : ∀ j, j < 14 → (R j).length * szJ j ≤ 1048576
theorem HW.at {W w : World} {hb : Nat} {vs : List Value} {R : Nat → List (List Value)} {z : Int} (h : HW W hb vs R z) (hB : Below W.heap.size W w) {j : Nat} (hj : j < 14) : ∃ A c, w.cell? ⟨hb, j, none⟩ = some (.slice A (R j).length c) ∧ RowA w A (szJ j) (ksJ j) c (R j) := by
  obtain ⟨A, c, e, hr⟩ := h.ha.row j hj
  refine ⟨A, c, ?_, hr.below hB⟩
  rw [hB.cell (p := ⟨hb, j, none⟩) h.cs.lt, h.cs.cell, e]
theorem start_pl {ct : Nat} {p0 : Oper} {id : Nat} {a : Act} {w : World} {Q : Exit → Act → World → Prop} (g : p0.guard = none) (p : p0.op = .assign (.const (.int .i64 0))) (hd : p0.dst = some ct) (hz : ct < a.tmps.size)
    (h : ∀ a', Lo ct a a' → (∀ s : Nat, s ≠ ct → a'.eval (.tmp s) = a.eval (.tmp s)) → a'.eval (.tmp ct) = .int .i64 ((0 : Nat) : Int) → Q .normal a' w) : (Code.region id #[p0] false).wp Try.prog Q a w := by
  refine wp_region_list ?_
  show wpList _ _ _ [p0] a w
  refine wpList_mv g (.const (.int .i64 0)) (.inr p) ?_
  rw [hd]
  exact wpList_nil (h _ ((Lo.refl ct a).put (d := ct) _ (Nat.le_refl _)) (fun s hs => put_other _ hs) ((put_same _ hz).trans rfl))
structure IncOps (ct d : Nat) (o1 o2 o3 : Oper) : Prop where
  g1 : o1.guard = none
  g2 : o2.guard = none
  g3 : o3.guard = none
  p1 : o1.op = .move (.tmp ct)
  p2 : ∃ r, o2.op = .binOp .add 3 (.tmp d) (.const (.int .i64 1)) r
  p3 : o3.op = .assign (.tmp (d + 1))
  d1 : o1.dst = some d
  d2 : o2.dst = some (d + 1)
  d3 : o3.dst = some ct
theorem inc_pl {ct d i : Nat} {o1 o2 o3 : Oper} {id : Nat} {a : Act} {w : World} {Q : Exit → Act → World → Prop} (ho : IncOps ct d o1 o2 o3) (hct : ct < d) (hz : d + 1 < a.tmps.size) (hc : a.eval (.tmp ct) = .int .i64 (i : Int)) (hi : i ≤ 1000000000)
    (h : ∀ a', a'.tmps.size = a.tmps.size → a'.defers = a.defers → (∀ s : Nat, s < d → s ≠ ct → a'.eval (.tmp s) = a.eval (.tmp s)) → a'.eval (.tmp ct) = .int .i64 ((i + 1 : Nat) : Int) → Q .normal a' w) : (Code.region id #[o1, o2, o3] false).wp Try.prog Q a w := by
  refine wp_region_list ?_
  show wpList _ _ _ [o1, o2, o3] a w
  refine wpList_mv ho.g1 (.tmp ct) (.inl ho.p1) ?_
  rw [ho.d1, hc]
  have l1 := (Lo.refl d a).put (d := d) (.int .i64 (i : Int)) (Nat.le_refl _)
  have v1 : (a.put (some d) (.int .i64 (i : Int))).eval (.tmp d) = .int .i64 (i : Int) := put_same _ (by omega)
  generalize a.put (some d) (.int .i64 (i : Int)) = a1 at l1 v1
  obtain ⟨r', hr2⟩ := ho.p2
  have e1 : a1.eval (.const (.int .i64 1)) = .int .i64 1 := rfl
  have hwr : IntKind.i64.wrap ((i : Int) + 1) = ((i + 1 : Nat) : Int) := by rw [IntWalk.i64_in _ (by omega)]; omega
  have hrun : (binOp .add 3 (.int .i64 (i : Int)) (.int .i64 1)).run Try.prog w = .ok (.int .i64 ((i + 1 : Nat) : Int)) w := by
    simp only [binOp, Op.intArith]
    simp [hwr]
  refine wpList_run ho.g2 (.int .i64 ((i + 1 : Nat) : Int)) (by unfold execOp; simp only [hr2, v1, e1]; generalize ((i + 1 : Nat) : Int) = z at hrun; simp [eqGuard, hrun]) ?_
  rw [ho.d2]
  have l2 := l1.put (d := d + 1) (.int .i64 ((i + 1 : Nat) : Int)) (by omega)
  have v2 : (a1.put (some (d + 1)) (.int .i64 ((i + 1 : Nat) : Int))).eval (.tmp (d + 1)) = .int .i64 ((i + 1 : Nat) : Int) := put_same _ (by rw [l1.size]; omega)
  generalize a1.put (some (d + 1)) (.int .i64 ((i + 1 : Nat) : Int)) = a2 at l2 v2
  refine wpList_mv ho.g3 (.tmp (d + 1)) (.inr ho.p3) ?_
  rw [ho.d3, v2]
  exact wpList_nil (h _ ((put_size _ _ _).trans l2.size) ((put_defers _ _ _).trans l2.defers) (fun s hs hn => (put_other _ hn).trans (l2.low s hs)) (put_same _ (by rw [l2.size]; omega)))
theorem len_c {S : World → Prop} {F : List Oper → Act → Prop} {rest : List Oper} {o : Oper} {a : Act} {d s n c : Nat} {T : TypeId} {A : Option Addr} (hF : Runs S F) (g : o.guard = none) (p : o.op = .call { callee := .builtin .len, args := #[.tmp s], argTypes := #[T] }) (hd : o.dst = some d) (hz : d < a.tmps.size) (hs : a.eval (.tmp s) = .slice A n c)
    (hrun : ∀ w, S w → (execOp a.eval o).run Try.prog w = .ok (.value (.int .i64 (n : Int))) w) (h : ∀ a', Lo d a a' → a'.eval (.tmp d) = .int .i64 (n : Int) → F rest a') : F (o :: rest) a :=
  out hF g hd hz _ hrun h
structure HeadP (S : TypeId) (j ct d : Nat) (o1 o2 o3 o4 o5 : Oper) : Prop where
  g1 : o1.guard = none
  g2 : o2.guard = none
  g3 : o3.guard = none
  g4 : o4.guard = none
  g5 : o5.guard = none
  p1 : o1.op = .move (.tmp ct)
  p2 : o2.op = .fieldAddr 37 (.tmp 1) j
  p3 : o3.op = .load S (.tmp (d + 1))
  p4 : o4.op = .call { callee := .builtin .len, args := #[.tmp (d + 2)], argTypes := #[S] }
  p5 : ∃ r, o5.op = .binOp .lss 3 (.tmp d) (.tmp (d + 3)) r
  d1 : o1.dst = some d
  d2 : o2.dst = some (d + 1)
  d3 : o3.dst = some (d + 2)
  d4 : o4.dst = some (d + 3)
  d5 : o5.dst = some (d + 4)
theorem head_pl {S : TypeId} {j ct d i hb : Nat} {o1 o2 o3 o4 o5 : Oper} {id : Nat} {W : World} {vs : List Value} {R : Nat → List (List Value)} {z : Int} {L : List Value} {a : Act} {w : World} {Q : Exit → Act → World → Prop} (ho : HeadP S j ct d o1 o2 o3 o4 o5) (hj : j < 14) (hct : ct < 22) (hd : 22 ≤ d) (hz : d + 4 < 329)
    (hag : ∀ w, (isAgg S).run Try.prog w = .ok false w) (hu : Try.prog.underlying S = some (.slice (TJ' j))) (hfa : ∀ b w, (Instr.fieldAt 37 (.pointer (some ⟨b, 0, none⟩)) j).run Try.prog w = .ok (.pointer (some ⟨b, j, none⟩)) w)
    (hH : HW W hb vs R z) (hP : PS W hb L a w) (hc : a.eval (.tmp ct) = .int .i64 (i : Int)) (h : ∀ a', Lo d a a' → a'.eval (.tmp (d + 4)) = .bool (decide (i < (R j).length)) → Q .normal a' w) : (Code.region id #[o1, o2, o3, o4, o5] false).wp Try.prog Q a w := by
  obtain ⟨v, hp, hg⟩ := hP
  obtain ⟨A, c, hcell, hr⟩ := hH.at hg.below hj
  obtain ⟨n, hn⟩ : ∃ n, n = (R j).length := ⟨_, rfl⟩
  rw [← hn] at h hcell
  have hz' : a.tmps.size = 329 := hp.size
  refine wp_region_list ?_
  show wpList _ _ _ [o1, o2, o3, o4, o5] a w
  refine mv_c (F := fun l a => wpList _ _ _ l a w) (runs_list) ho.g1 ho.p1 ho.d1 (by omega) hc fun a1 l1 v1 => ?_
  refine out (F := fun l a => wpList _ _ _ l a w) (runs_list) ho.g2 ho.d2 (by rw [l1.size]; omega) (.pointer (some ⟨hb, j, none⟩)) (fun w _ => by unfold execOp; simp only [ho.p2, (l1.low 1 (by omega)).trans hp.s1, Sem.run_bind, hfa, Result.andThen_ok, Sem.run_pure]) fun a2 l2 v2 => ?_
  refine ld_c (F := fun l a => wpList _ _ _ l a w) (runs_list) ho.g3 ho.p3 ho.d3 (by rw [l2.size, l1.size]; omega) v2 hag (at_eq hcell) fun a3 l3 v3 => ?_
  refine out (F := fun l a => wpList _ _ _ l a w) (runs_list) ho.g4 ho.d4 (by rw [l3.size, l2.size, l1.size]; omega) (.int .i64 (n : Int)) ?_ fun a4 l4 v4 => ?_
  · have q3 : a3.tmps[d + 2]?.getD undef = .slice A n c := by rw [← v3]; simp [Act.eval, Array.getD_eq_getD_getElem?]
    have hu' : Try.prog.underlying S = some (.slice (Try.prog.elem S)) := by
      have : Try.prog.elem S = TJ' j := by simp [Program.elem, hu]
      rw [this]; exact hu
    intro w _
    unfold execOp
    simp [go_sem, ho.p4, q3, run_len_slice (h := hu')]
  have v1' : a4.eval (.tmp d) = .int .i64 (i : Int) := (l4.low d (by omega)).trans ((l3.low d (by omega)).trans ((l2.low d (by omega)).trans v1))
  obtain ⟨r5, hp5⟩ := ho.p5
  have hdd : decide ((i : Int) < (n : Int)) = decide (i < n) := by rw [decide_eq_decide]; omega
  refine out (F := fun l a => wpList _ _ _ l a w) (runs_list) ho.g5 ho.d5 (by rw [l4.size, l3.size, l2.size, l1.size]; omega) (.bool (decide (i < n))) (fun w _ => by unfold execOp; simp only [hp5, v1', v4]; simp [go_sem, hdd]) fun a5 l5 v5 => ?_
  have hl : Lo d a a5 := ⟨l5.size.trans (l4.size.trans (l3.size.trans (l2.size.trans l1.size))), l5.defers.trans (l4.defers.trans (l3.defers.trans (l2.defers.trans l1.defers))), fun s hs => (l5.low s (by omega)).trans ((l4.low s (by omega)).trans ((l3.low s (by omega)).trans ((l2.low s (by omega)).trans (l1.low s hs))))⟩
  exact wpList_nil (h a5 hl v5)
end Go.Proofs.Ytgdoodeibcfcjaa.Wire
namespace Go.Proofs.Ytgdoodeibcfcjaa.Wire
open Go.RowKit Go.Proofs.Ytgdoodeibcfcjaa.NumsPure Go.Proofs.Ytgdoodeibcfcjaa.CPure Go.Proofs.Ytgdoodeibcfcjaa.Own
/-! ### What has been gathered -/
/-- Of a thing x the numbers at the places ms lie in the list; what held before still holds. -/
structure PG (C : List Value → Prop) (N : Nat) (x : List Value) (ms : List Nat) (L : List Value) : Prop where
  before : C L
  part : ∀ m ∈ ms, ∀ z : Int, x[m]? = some (.int .i64 z) → Value.int .i64 z ∈ L
  few : L.length ≤ N + ms.length
theorem PG.step {C : List Value → Prop} {N : Nat} {x : List Value} {ms os : List Nat} {L vs : List Value} (hC : ∀ L L', C L → C (L ++ L')) (h : PG C N x ms L) (hl : vs.length = os.length) (ho : ∀ m ∈ os, ∀ z : Int, x[m]? = some (.int .i64 z) → Value.int .i64 z ∈ vs) : PG C N x (ms ++ os) (L ++ vs) := by
  refine ⟨hC _ _ h.before, fun m hm z hz => ?_, ?_⟩
  · rcases List.mem_append.1 hm with q | q
    · exact List.mem_append_left _ (h.part m q z hz)
    · exact List.mem_append_right _ (ho m q z hz)
  · have := h.few
    simp only [List.length_append]
    omega
theorem PG.start {C : List Value → Prop} {N : Nat} {x : List Value} {L : List Value} (h : C L) (hl : L.length ≤ N) : PG C N x [] L := ⟨h, fun m hm => (by cases hm), (by simpa using hl)⟩
/-- The lists before j, and of list j the first i things. -/
structure CJ (R : Nat → List (List Value)) (j i : Nat) (L : List Value) : Prop where
  before : ∀ j', j' < j → Cov (offsJ j') L (R j') (R j').length
  here : Cov (offsJ j) L (R j) i
theorem CJ.more {R : Nat → List (List Value)} {j i : Nat} : ∀ L L' : List Value, CJ R j i L → CJ R j i (L ++ L') := fun L L' h => ⟨fun j' hj => (h.before j' hj).more, h.here.more⟩
theorem CJ.next {R : Nat → List (List Value)} {j : Nat} {L : List Value} (h : CJ R j (R j).length L) : CJ R (j + 1) 0 L := ⟨fun j' hj => by
  by_cases e : j' = j
  · subst e; exact h.here
  · exact h.before j' (by omega), Cov.zero⟩
theorem CJ.none {R : Nat → List (List Value)} {j : Nat} {L : List Value} (h : CJ R j 0 L) (ho : offsJ j = []) : CJ R (j + 1) 0 L :=
  CJ.next ⟨h.before, fun k x hk hx m hm => by rw [ho] at hm; cases hm⟩
theorem CJ.succ {R : Nat → List (List Value)} {j i N : Nat} {x : List Value} {ms : List Nat} {L : List Value} (h : PG (CJ R j i) N x ms L) (hx : (R j)[i]? = some x) (ho : ∀ m ∈ offsJ j, m ∈ ms) : CJ R j (i + 1) L :=
  ⟨h.before.before, h.before.here.succ hx fun m hm z hz => h.part m (ho m hm) z hz⟩
/-- The state of loop j ahead of round i. -/
def LS (W : World) (hb : Nat) (R : Nat → List (List Value)) (j i : Nat) (a : Act) (w : World) : Prop := ∃ L, PS W hb L a w ∧ CJ R j i L ∧ L.length ≤ j * 1100000 + i * szJ j
theorem LS.lo {W w : World} {hb d j i : Nat} {R : Nat → List (List Value)} {a a' : Act} (h : LS W hb R j i a w) (l : Lo d a a') (hd : 4 ≤ d) : LS W hb R j i a' w := by
  obtain ⟨L, h1, h2⟩ := h
  exact ⟨L, h1.lo l hd, h2⟩
theorem PS.kept {W w : World} {hb : Nat} {L : List Value} {a a' : Act} (h : PS W hb L a w) (hz : a'.tmps.size = a.tmps.size) (hd : a'.defers = a.defers) (h1 : a'.eval (.tmp 1) = a.eval (.tmp 1)) (h3 : a'.eval (.tmp 3) = a.eval (.tmp 3)) : PS W hb L a' w := by
  obtain ⟨v, q, g⟩ := h
  exact ⟨v, ⟨hz.trans q.size, hd.trans q.defers, h1.trans q.s1, h3.trans q.s3⟩, g⟩
theorem LS.kept {W w : World} {hb j i : Nat} {R : Nat → List (List Value)} {a a' : Act} (h : LS W hb R j i a w) (hz : a'.tmps.size = a.tmps.size) (hd : a'.defers = a.defers) (h1 : a'.eval (.tmp 1) = a.eval (.tmp 1)) (h3 : a'.eval (.tmp 3) = a.eval (.tmp 3)) : LS W hb R j i a' w := by
  obtain ⟨L, q, g⟩ := h
  exact ⟨L, q.kept hz hd h1 h3, g⟩
theorem LS.size {W w : World} {hb j i : Nat} {R : Nat → List (List Value)} {a : Act} (h : LS W hb R j i a w) : a.tmps.size = 329 := by
  obtain ⟨L, ⟨v, q, g⟩, _⟩ := h
  exact q.size
theorem LS.next {W w : World} {hb j : Nat} {R : Nat → List (List Value)} {a : Act} (h : LS W hb R j (R j).length a w) (hl : (R j).length * szJ j ≤ 1048576) : LS W hb R (j + 1) 0 a w := by
  obtain ⟨L, h1, h2, h3⟩ := h
  exact ⟨L, h1, h2.next, by simp only [Nat.zero_mul, Nat.add_zero]; omega⟩
theorem LS.none {W w : World} {hb j : Nat} {R : Nat → List (List Value)} {a : Act} (h : LS W hb R j 0 a w) (ho : offsJ j = []) : LS W hb R (j + 1) 0 a w := by
  obtain ⟨L, h1, h2, h3⟩ := h
  simp only [Nat.zero_mul, Nat.add_zero] at h3
  exact ⟨L, h1, h2.none ho, Nat.le_trans (Nat.le_trans h3 (Nat.mul_le_mul_right _ (Nat.le_succ _))) (Nat.le_add_right _ _)⟩
theorem HW.few {W : World} {hb : Nat} {vs : List Value} {R : Nat → List (List Value)} {z : Int} (h : HW W hb vs R z) {j : Nat} (hj : j < 14) : (R j).length ≤ 100000000 := by
  obtain ⟨A, c, e, hr⟩ := h.ha.row j hj
  exact hr.few
/-! ### What is read -/
theorem HW.num {W w : World} {hb : Nat} {vs : List Value} {R : Nat → List (List Value)} {z : Int} (h : HW W hb vs R z) (hB : Below W.heap.size W w) {j i : Nat} (hj : j < 14) (hi : i < (R j).length) :
    ∃ x ad c, (R j)[i]? = some x ∧ w.cell? ⟨hb, j, none⟩ = some (.slice (some ad) (R j).length c) ∧ (∀ m v, x[m]? = some v → w.cell? (ad.add (i * szJ j + m)) = some v) ∧ Fits (ksJ j) x ∧ ad.block < W.heap.size := by
  obtain ⟨A, c, e, hr⟩ := h.ha.row j hj
  obtain ⟨ad, rfl, hb', hc⟩ := hr.at_ (by omega)
  exact ⟨(R j)[i], ad, c, List.getElem?_eq_getElem hi, by rw [hB.cell (p := ⟨hb, j, none⟩) h.cs.lt, h.cs.cell, e], fun m v hv => by rw [hB.cell (p := ad.add (i * szJ j + m)) (by rw [block_of_add]; exact hb')]; exact hc i _ (List.getElem?_eq_getElem hi) m v hv, hr.fits _ (List.getElem_mem hi), hb'⟩
theorem int_at {ks : List K} {x : List Value} {m : Nat} (h : Fits ks x) (hk : ks[m]? = some .n) : ∃ z, x[m]? = some (.int .i64 z) := by
  obtain ⟨v, e, z, rfl⟩ := fits_at h hk
  exact ⟨z, e⟩
/-- To the thing, by index. -/
structure TtOps (S : TypeId) (j ct d : Nat) (o1 o2 o3 o4 : Oper) : Prop where
  g1 : o1.guard = none
  g2 : o2.guard = none
  g3 : o3.guard = none
  g4 : o4.guard = none
  p1 : o1.op = .fieldAddr 37 (.tmp 1) j
  p2 : o2.op = .load S (.tmp d)
  p3 : o3.op = .move (.tmp ct)
  p4 : o4.op = .indexAddr S (.tmp (d + 1)) (.tmp (d + 2))
  d1 : o1.dst = some d
  d2 : o2.dst = some (d + 1)
  d3 : o3.dst = some (d + 2)
  d4 : o4.dst = some (d + 3)
/-- What is known of a list's type. -/
structure LP (S T : TypeId) (j sz : Nat) : Prop where
  fa : ∀ b w, (Instr.fieldAt 37 (.pointer (some ⟨b, 0, none⟩)) j).run Try.prog w = .ok (.pointer (some ⟨b, j, none⟩)) w
  ag : ∀ w, (isAgg S).run Try.prog w = .ok false w
  ix : ∀ (ad : Addr) (n c i : Nat) (w : World), i < n → (Instr.indexAt S (.slice (some ad) n c) (.int .i64 (i : Int))).run Try.prog w = .ok (.pointer (some (ad.add (i * sz)))) w
theorem agg_int (w : World) : (isAgg 3).run Try.prog w = .ok false w := by simp [go_sem]
section
variable {Sw : World → Prop} {F : List Oper → Act → Prop} {rest : List Oper} {a : Act} {d : Nat}
theorem tt_c (hF : Runs Sw F) {S T : TypeId} {j sz ct hb n c i : Nat} {v : Value} {ad : Addr} {o1 o2 o3 o4 : Oper} (ho : TtOps S j ct d o1 o2 o3 o4) (hT : LP S T j sz) (hd : 22 ≤ d) (hz : d + 3 < 329) (hct : ct < 22) (hP : PF hb v a) (hc : a.eval (.tmp ct) = .int .i64 (i : Int)) (hi : i < n)
    (hl : ∀ w, Sw w → w.cell? ⟨hb, j, none⟩ = some (.slice (some ad) n c)) (h : ∀ a', Lo d a a' → a'.eval (.tmp (d + 3)) = .pointer (some (ad.add (i * sz))) → F rest a') : F (o1 :: o2 :: o3 :: o4 :: rest) a := by
  refine out hF ho.g1 ho.d1 (by rw [hP.size]; omega) (.pointer (some ⟨hb, j, none⟩)) (fun w _ => by unfold execOp; simp only [ho.p1, hP.s1, Sem.run_bind, hT.fa, Result.andThen_ok, Sem.run_pure]) fun a1 l1 v1 => ?_
  refine ld_c hF ho.g2 ho.p2 ho.d2 (by rw [l1.size, hP.size]; omega) v1 hT.ag hl fun a2 l2 v2 => ?_
  refine mv_c hF ho.g3 ho.p3 ho.d3 (by rw [l2.size, l1.size, hP.size]; omega) ((l2.low ct (by omega)).trans ((l1.low ct (by omega)).trans hc)) fun a3 l3 v3 => ?_
  refine ix_c hF ho.g4 ho.p4 ho.d4 (by rw [l3.size, l2.size, l1.size, hP.size]; omega) ((l3.low (d + 1) (by omega)).trans v2) v3 (fun w => hT.ix ad n c i w hi) fun a4 l4 v4 => ?_
  exact h a4 ⟨l4.size.trans (l3.size.trans (l2.size.trans l1.size)), l4.defers.trans (l3.defers.trans (l2.defers.trans l1.defers)), fun s hs => (l4.low s (by omega)).trans ((l3.low s (by omega)).trans ((l2.low s (by omega)).trans (l1.low s hs)))⟩ v4
/-- A number's field, and its load. -/
structure FlOps (T : TypeId) (s f d : Nat) (o1 o2 : Oper) : Prop where
  g1 : o1.guard = none
  g2 : o2.guard = none
  p1 : o1.op = .fieldAddr T (.tmp s) f
  p2 : o2.op = .load 3 (.tmp d)
  d1 : o1.dst = some d
  d2 : o2.dst = some (d + 1)
theorem fl_c (hF : Runs Sw F) {T : TypeId} {s f off : Nat} {b : Addr} {z : Int} {o1 o2 : Oper} (ho : FlOps T s f d o1 o2) (hz : d + 1 < a.tmps.size) (hs : a.eval (.tmp s) = .pointer (some b)) (hfa : ∀ w, (Instr.fieldAt T (.pointer (some b)) f).run Try.prog w = .ok (.pointer (some (b.add off))) w)
    (hx : ∀ w, Sw w → w.cell? (b.add off) = some (.int .i64 z)) (h : ∀ a', Lo d a a' → a'.eval (.tmp (d + 1)) = .int .i64 z → F rest a') : F (o1 :: o2 :: rest) a := by
  refine fa_c hF ho.g1 ho.p1 ho.d1 (by omega) hs hfa fun a1 l1 v1 => ?_
  refine ld_c hF ho.g2 ho.p2 ho.d2 (by rw [l1.size]; omega) v1 agg_int hx fun a2 l2 v2 => ?_
  exact h a2 ⟨l2.size.trans l1.size, l2.defers.trans l1.defers, fun s hs => (l2.low s (by omega)).trans (l1.low s hs)⟩ v2
/-- A key's number. -/
structure FkOps (T : TypeId) (s f d : Nat) (o1 o2 o3 : Oper) : Prop where
  g1 : o1.guard = none
  g2 : o2.guard = none
  g3 : o3.guard = none
  p1 : o1.op = .fieldAddr T (.tmp s) f
  p2 : o2.op = .fieldAddr 82 (.tmp d) 3
  p3 : o3.op = .load 3 (.tmp (d + 1))
  d1 : o1.dst = some d
  d2 : o2.dst = some (d + 1)
  d3 : o3.dst = some (d + 2)
theorem fa_key (b : Addr) (w : World) : (Instr.fieldAt 82 (.pointer (some b)) 3).run Try.prog w = .ok (.pointer (some (b.add 3))) w := by simp [go_sem]
theorem fk_c (hF : Runs Sw F) {T : TypeId} {s f off : Nat} {b : Addr} {z : Int} {o1 o2 o3 : Oper} (ho : FkOps T s f d o1 o2 o3) (hz : d + 2 < a.tmps.size) (hs : a.eval (.tmp s) = .pointer (some b)) (hfa : ∀ w, (Instr.fieldAt T (.pointer (some b)) f).run Try.prog w = .ok (.pointer (some (b.add off))) w)
    (hx : ∀ w, Sw w → w.cell? ((b.add off).add 3) = some (.int .i64 z)) (h : ∀ a', Lo d a a' → a'.eval (.tmp (d + 2)) = .int .i64 z → F rest a') : F (o1 :: o2 :: o3 :: rest) a := by
  refine fa_c hF ho.g1 ho.p1 ho.d1 (by omega) hs hfa fun a1 l1 v1 => ?_
  refine fa_c hF ho.g2 ho.p2 ho.d2 (by rw [l1.size]; omega) v1 (fa_key _) fun a2 l2 v2 => ?_
  refine ld_c hF ho.g3 ho.p3 ho.d3 (by rw [l2.size, l1.size]; omega) v2 agg_int hx fun a3 l3 v3 => ?_
  exact h a3 ⟨l3.size.trans (l2.size.trans l1.size), l3.defers.trans (l2.defers.trans l1.defers), fun s hs => (l3.low s (by omega)).trans ((l2.low s (by omega)).trans (l1.low s hs))⟩ v3
end
/-! ### A copy of a thing -/
theorem Gat.later {B : Nat} {L : List Value} {v : Value} {w0 w w' : World} (h : Gat B L v w0 w) (hB : B ≤ w.heap.size) (k : Below w.heap.size w w') : Gat B L v w0 w' := by
  refine ⟨⟨h.own.1, ?_⟩, h.int, h.below.trans (k.mono hB)⟩
  rcases h.own.2 with q | ⟨g, cap, cur, e, hb, hg, q⟩
  · exact .inl q
  · exact .inr ⟨g, cap, cur, e, hb, by rw [k.block g (Array.getElem?_eq_some_iff.1 hg).1]; exact hg, q⟩
theorem Gat.le {L : List Value} {v : Value} {w0 w : World} (h : Gat w0.heap.size L v w0 w) : w0.heap.size ≤ w.heap.size := h.below.size
theorem below_setCells {w w1 : World} (h : Below w.heap.size w w1) {b : Nat} (hb : w.heap.size ≤ b) (o : Nat) (cs : List Value) : Below w.heap.size w (w1.setCells b o cs) := by
  obtain ⟨q1, q2, q3, q4⟩ := same_setCells b cs o w1
  exact ⟨q1.trans h.os, q2.trans h.tape, q3.trans h.output, by rw [q4]; exact h.size, fun i hi => (heap_setCells b _ o w1 i (by omega)).trans (h.block i hi)⟩
structure CpOps (T : TypeId) (e d : Nat) (o5 o6 o7 : Oper) : Prop where
  g5 : o5.guard = none
  g6 : o6.guard = none
  g7 : o7.guard = none
  p5 : o5.op = .load T (.tmp d)
  p6 : o6.op = .alloc T
  p7 : o7.op = .store T (.tmp e) (.tmp (d + 1))
  d5 : o5.dst = some (d + 1)
  d6 : o6.dst = some e
  d7 : o7.dst = none
/-- A thing's cells are copied into a block of their own. -/
theorem cp_list {T : TypeId} {e d : Nat} {o5 o6 o7 : Oper} {ops : Array Oper} {ks : List K} {x : List Value} {ad : Addr} {dt : TypeDesc} {a : Act} {w : World} {Q : Exit → Act → World → Prop} (ho : CpOps T e d o5 o6 o7) (he : e < d) (hz : d + 1 < a.tmps.size)
    (hu : Try.prog.underlying T = some dt) (hdr : dt.isRow = true) (hsz : (Try.prog.info? T).map (·.size) = some ks.length) (hzero : ∀ w, (zeroValue T).run Try.prog w = .ok (.agg (ks.map zeroV).toArray) w) (hx : Fits ks x) (hs : a.eval (.tmp d) = .pointer (some ad)) (hc : ∀ m v, x[m]? = some v → w.cell? (ad.add m) = some v)
    (h : ∀ a' w', a'.tmps.size = a.tmps.size → a'.defers = a.defers → (∀ s : Nat, s < d → s ≠ e → a'.eval (.tmp s) = a.eval (.tmp s)) → a'.eval (.tmp e) = .pointer (some ⟨w.heap.size, 0, none⟩) → Cs w.heap.size T x w' → Below w.heap.size w w' → Q .normal a' w') : wpList Try.prog ops Q [o5, o6, o7] a w := by
  have hxl : x.length = ks.length := fits_len hx
  refine wpList_load_at ho.g5 T (.tmp d) ho.p5 ad hs x dt hc hu hdr (by rw [hxl]; exact hsz) ?_
  rw [ho.d5]
  have l1 := (Lo.refl (d + 1) a).put (d := d + 1) (.agg x.toArray) (Nat.le_refl _)
  have v1 : (a.put (some (d + 1)) (.agg x.toArray)).eval (.tmp (d + 1)) = .agg x.toArray := put_same _ hz
  generalize a.put (some (d + 1)) (.agg x.toArray) = a1 at l1 v1
  have hrun : (execOp a1.eval o6).run Try.prog w = .ok (.value (.pointer (some ⟨w.heap.size, 0, none⟩))) (w.alloc (.cells (ks.map zeroV).toArray T)) := by
    unfold execOp
    simp [ho.p6, Instr.alloc, Sem.run_bind, hzero w, newVar, newRow, Value.cells, go_sem]
  refine Great.wpList_allocTo ho.g6 (some e) ho.d6 (.pointer (some ⟨w.heap.size, 0, none⟩)) _ hrun ?_
  have v2 : (a1.put (some e) (.pointer (some ⟨w.heap.size, 0, none⟩))).eval (.tmp e) = .pointer (some ⟨w.heap.size, 0, none⟩) := put_same _ (by rw [l1.size]; omega)
  have v2b : (a1.put (some e) (.pointer (some ⟨w.heap.size, 0, none⟩))).eval (.tmp (d + 1)) = .agg x.toArray := (put_other _ (by omega)).trans v1
  have k2 : ∀ s : Nat, s < d → s ≠ e → (a1.put (some e) (.pointer (some ⟨w.heap.size, 0, none⟩))).eval (.tmp s) = a.eval (.tmp s) := fun s hs' hn => (put_other _ hn).trans (l1.low s (by omega))
  have z2 := (put_size a1 (some e) (.pointer (some ⟨w.heap.size, 0, none⟩))).trans l1.size
  have f2 := (put_defers a1 (some e) (.pointer (some ⟨w.heap.size, 0, none⟩))).trans l1.defers
  generalize a1.put (some e) (.pointer (some ⟨w.heap.size, 0, none⟩)) = a2 at v2 v2b k2 z2 f2
  have hcs : Cs w.heap.size T (ks.map zeroV) (w.alloc (.cells (ks.map zeroV).toArray T)) := cs_alloc _ _ _ _ rfl
  refine wpList_storeV ho.g7 T (.tmp e) (.tmp (d + 1)) ho.p7 w.heap.size 0 (.agg x.toArray) x v2 v2b (by simp [Value.cells]) ?_ (by rw [hxl]; exact hsz) (fits_one hx) ?_
  · intro j hj
    rw [hcs.cell, hcs.frozen]
    refine ⟨?_, rfl⟩
    have : j < ks.length := by omega
    simp [this]
  rw [ho.d7, put_none]
  refine wpList_nil (h a2 _ z2 f2 k2 v2 ?_ (below_setCells (alloc_below w _) (Nat.le_refl _) _ _))
  have := Cs.setCells x [] (ks.map zeroV) [] _ (by simp [hxl]) (by simpa using hcs)
  simpa using this
theorem cp_region {S T : TypeId} {j sz ct d e hb n c i : Nat} {v : Value} {ad : Addr} {o1 o2 o3 o4 o5 o6 o7 : Oper} {id : Nat} {ks : List K} {x : List Value} {dt : TypeDesc} {a : Act} {w : World} {Q : Exit → Act → World → Prop} (ho : TtOps S j ct d o1 o2 o3 o4) (hcp : CpOps T e (d + 3) o5 o6 o7) (hT : LP S T j sz)
    (hd : 22 ≤ d) (hz : d + 4 < 329) (he : e < 22) (he4 : 4 ≤ e) (hct : ct < 22) (hP : PF hb v a) (hc : a.eval (.tmp ct) = .int .i64 (i : Int)) (hi : i < n) (hl : w.cell? ⟨hb, j, none⟩ = some (.slice (some ad) n c))
    (hu : Try.prog.underlying T = some dt) (hdr : dt.isRow = true) (hsz : (Try.prog.info? T).map (·.size) = some ks.length) (hzero : ∀ w, (zeroValue T).run Try.prog w = .ok (.agg (ks.map zeroV).toArray) w) (hx : Fits ks x) (hrow : ∀ m v, x[m]? = some v → w.cell? (ad.add (i * sz + m)) = some v)
    (h : ∀ a' w', PF hb v a' → (∀ s : Nat, s < 22 → s ≠ e → a'.eval (.tmp s) = a.eval (.tmp s)) → a'.eval (.tmp e) = .pointer (some ⟨w.heap.size, 0, none⟩) → Cs w.heap.size T x w' → Below w.heap.size w w' → Q .normal a' w') : (Code.region id #[o1, o2, o3, o4, o5, o6, o7] false).wp Try.prog Q a w := by
  refine wp_region_list ?_
  show wpList _ _ _ [o1, o2, o3, o4, o5, o6, o7] a w
  refine tt_c (F := fun l a => wpList _ _ _ l a w) (runs_list) ho hT hd (by omega) hct hP hc hi (at_eq hl) fun a1 l1 v1 => ?_
  refine cp_list hcp (by omega) (by rw [l1.size, hP.size]; omega) hu hdr hsz hzero hx v1 (fun m u hu' => by rw [add_of_add]; exact hrow m u hu') fun a2 w2 z2 f2 k2 e2 hcs hB => ?_
  have hk : ∀ s : Nat, s < 22 → s ≠ e → a2.eval (.tmp s) = a.eval (.tmp s) := fun s hs hn => (k2 s (by omega) hn).trans (l1.low s (by omega))
  exact h a2 w2 ⟨z2.trans (l1.size.trans hP.size), f2.trans (l1.defers.trans hP.defers), (hk 1 (by omega) (by omega)).trans hP.s1, (hk 3 (by omega) (by omega)).trans hP.s3⟩ hk e2 hcs hB
/-- A list's loop. -/
theorem pl_list {S T : TypeId} {j ct hd di sz hb : Nat} {p0 o1 o2 o3 o4 o5 q1 q2 q3 : Oper} {id0 id1 id2 b b1 : Nat} {body : Code} {W : World} {vs : List Value} {R : Nat → List (List Value)} {z : Int} (hj : j < 14) (g0 : p0.guard = none) (e0 : p0.op = .assign (.const (.int .i64 0))) (d0 : p0.dst = some ct) (hh : HeadP S j ct hd o1 o2 o3 o4 o5) (hi : IncOps ct di q1 q2 q3)
    (hct : ct < 22) (hct4 : 4 ≤ ct) (hhd : 22 ≤ hd) (hhz : hd + 4 < 329) (hdi : 22 ≤ di) (hdz : di + 1 < 329) (hT : LP S T j sz) (hu : Try.prog.underlying S = some (.slice (TJ' j))) (hsz : szJ j = sz) (hH : HW W hb vs R z)
    (hbody : ∀ a w i L Q, PutOk Q → i < (R j).length → PS W hb L a w → CJ R j i L → L.length ≤ j * 1100000 + i * sz → a.eval (.tmp ct) = .int .i64 (i : Int) → (∀ a' w' L', PS W hb L' a' w' → CJ R j (i + 1) L' → L'.length ≤ j * 1100000 + (i + 1) * sz → a'.eval (.tmp ct) = .int .i64 (i : Int) → Q .normal a' w') → body.wp Try.prog Q a w)
    {a : Act} {w : World} {Q : Exit → Act → World → Prop} (hQ : PutOk Q) (h0 : LS W hb R j 0 a w) (h : ∀ a' w', LS W hb R (j + 1) 0 a' w' → Q .normal a' w') :
    (Code.seq (Code.region id0 #[p0] false) (Code.block b (Code.loop (Code.seq (Code.seq (Code.region id1 #[o1, o2, o3, o4, o5] false) (Code.cond (.tmp (hd + 4)) Code.skip (Code.exit b))) (Code.seq (Code.block b1 body) (Code.region id2 #[q1, q2, q3] false)))))).wp Try.prog Q a w := by
  have hf := hH.few hj
  refine up_loop (ct := ct) (hs := hd + 4) (n := (R j).length) (fun i a w => LS W hb R j i a w) (fun i a w => LS W hb R j (i + 1) a w) (S0 := fun a w => LS W hb R j 0 a w) ?_ ?_ ?_ ?_ hQ h0 fun a' w' s => h a' w' (s.next (hH.cells j hj))
  · intro a w Q s hQ
    exact start_pl g0 e0 d0 (by rw [s.size]; omega) fun a' l _ v => hQ a' (s.lo l hct4) v
  · intro a w i Q hin s hc hQ
    obtain ⟨L, s1, s2⟩ := s
    exact head_pl hh hj hct hhd hhz hT.ag hu hT.fa hH s1 hc fun a' l v => hQ a' (LS.lo ⟨L, s1, s2⟩ l (by omega)) ((l.low ct (by omega)).trans hc) v
  · intro a w i Q hq hlt s hc hQ
    obtain ⟨L, s1, s2, s3⟩ := s
    exact hbody a w i L Q hq hlt s1 s2 (by rw [← hsz]; exact s3) hc fun a' w' L' p1 p2 p3 p4 => hQ a' w' ⟨L', p1, p2, by rw [hsz]; exact p3⟩ p4
  · intro a w i Q hlt s hc hQ
    exact inc_pl hi (by omega) (by rw [s.size]; omega) hc (by omega) fun a' z1 f1 k1 c1 => hQ a' (s.kept z1 f1 (k1 1 (by omega) (by omega)) (k1 3 (by omega) (by omega))) c1
theorem Gat.own_ne {B : Nat} {L : List Value} {v : Value} {w0 w : World} (h : Gat B L v w0 w) {b : Nat} (hb : b < B) : v.ownBlock ≠ some b := fun e => by have := (h.own.lt b e).1; omega
theorem Gat.own_cs {B : Nat} {L : List Value} {v : Value} {w0 w : World} (h : Gat B L v w0 w) {b : Nat} {T : TypeId} {y : List Value} (hy : Cs b T y w) (hT : T ≠ 3) : v.ownBlock ≠ some b := fun e => by
  rcases h.own.2 with ⟨q, _⟩ | ⟨g, cap, cur, q, _, hg, _⟩
  · rw [q] at e; cases e
  · rw [q] at e
    have e' : g = b := by simpa [Value.ownBlock] using e
    subst e'
    unfold Cs at hy
    rw [hg] at hy
    exact hT (by cases hy; rfl)
theorem Gat.drew {B : Nat} {L : List Value} {v : Value} {w0 w : World} (h : Gat B L v w0 w) : Gat B L v w0 w.drew := ⟨h.own.drew, h.int, h.below.drew⟩
theorem zero_ofP {T : TypeId} {z : Value} {s b : Nat} (h : (Try.prog.info? T).map (fun i => (i.zero, i.size, i.bytes)) = some (some z, s, b)) (w : World) : (zeroValue T).run Try.prog w = .ok z w := by
  obtain ⟨i, hi, hz, _, _⟩ := infoParts h
  simp [zeroValue, typeInfo, hi, hz]
theorem size_ofP {T : TypeId} {z : Value} {s b : Nat} (h : (Try.prog.info? T).map (fun i => (i.zero, i.size, i.bytes)) = some (some z, s, b)) : (Try.prog.info? T).map (·.size) = some s := by
  obtain ⟨i, hi, hz, hs, _⟩ := infoParts h
  simp [hi, hs]
noncomputable def bodyP : Code := (Try.f19.body).getD .skip
def seqRP : Code → Code
  | .seq _ b => b
  | c => c
def seqLP : Code → Code
  | .seq a _ => a
  | c => c
def dropP : Nat → Code → Code
  | 0, c => c
  | n + 1, c => dropP n (seqRP c)
noncomputable def partP (i : Nat) : Code := seqLP (dropP (i + 2) bodyP)
end Go.Proofs.Ytgdoodeibcfcjaa.Wire
