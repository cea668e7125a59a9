/- A list of things, laid and read: what the sixteen instances have in common. -/
import Derived.Test.YtgdoodeibcfcjaaGreatCFnsN
import Derived.Deep.WholeRow
import Derived.Deep.AppendLies
import Derived.Lib.ItoaWalk
import Derived.StillTailTactics
import Derived.Great.BuildSlice
set_option linter.unusedVariables false
set_option linter.unusedSimpArgs false
namespace Go.Proofs.YtgdoodeibcfcjaaGreat.Wire
open Go.RowKit Go.Proofs.YtgdoodeibcfcjaaGreat.NumsPure Go.Proofs.YtgdoodeibcfcjaaGreat.CPure Go.Proofs.YtgdoodeibcfcjaaGreat.Own
open Go.Proofs.YtgdoodeibcfcjaaGreat.Put (digits digits_lt digits_ge)
open Go.Proofs.YtgdoodeibcfcjaaGreat.BldS (Keeps)
theorem add_of_add (a : Addr) (i j : Nat) : (a.add i).add j = a.add (i + j) := by
  unfold Addr.add
  by_cases hi : i = 0 <;> by_cases hj : j = 0 <;> simp [hi, hj, Nat.add_assoc]
theorem block_of_add (a : Addr) (n : Nat) : (a.add n).block = a.block := by unfold Addr.add; split <;> rfl
/-- A block that writing leaves alone. -/
def Stay (B bb : Nat) (w : World) (b : Nat) : Prop := ∀ w', Wk B bb w w' → w'.heap[b]? = w.heap[b]?
theorem Stay.next {B bb : Nat} {w w1 : World} {b : Nat} (h : Stay B bb w b) (k : Wk B bb w w1) : Stay B bb w1 b := fun w' q => (h w' (k.trans q)).trans (h w1 k).symm
theorem Stay.old {B bb : Nat} {w : World} {b : Nat} (h : b < B) : Stay B bb w b := fun w' k => k.below.block b h
theorem Stay.cs {B bb : Nat} {w : World} {b : Nat} {T : TypeId} {vs : List Value} (h : Cs b T vs w) (hT : T ≠ 5) (hb : b ≠ bb) : Stay B bb w b := fun w' k => (k.cs h hT hb).trans (Eq.symm h)
theorem Stay.cell {B bb : Nat} {w w1 : World} {a : Addr} (h : Stay B bb w a.block) (k : Wk B bb w w1) : w1.cell? a = w.cell? a := by simp [World.cell?, h w1 k]
/-- The things of a row, k cells each. -/
structure RowsAt (B bb : Nat) (w : World) (A : Option Addr) (k : Nat) (rows : List (List Value)) : Prop where
  at_ : 0 < rows.length → ∃ ad, A = some ad ∧ Stay B bb w ad.block ∧ ∀ (i : Nat) x, rows[i]? = some x → ∀ (m : Nat) v, x[m]? = some v → w.cell? (ad.add (i * k + m)) = some v
theorem RowsAt.next {B bb k : Nat} {w w1 : World} {A : Option Addr} {rows : List (List Value)} (h : RowsAt B bb w A k rows) (q : Wk B bb w w1) : RowsAt B bb w1 A k rows := ⟨fun hl => by
  obtain ⟨ad, e, hs, hc⟩ := h.at_ hl
  refine ⟨ad, e, hs.next q, fun i x hx m v hv => ?_⟩
  rw [Stay.cell (a := ad.add (i * k + m)) (by rw [block_of_add]; exact hs) q]
  exact hc i x hx m v hv⟩
theorem Stay.below {B bb : Nat} {w w1 : World} {b : Nat} (hB : B ≤ w.heap.size) (h : Stay B bb w b) (k : Below w.heap.size w w1) : Stay B bb w1 b := h.next (Wk.of_below hB k)
section
variable {P : Program}
/-- A struct is loaded, wherever it lies. -/
theorem run_loadVar_at (w : World) (ad : Addr) (ty : TypeId) (cs : List Value) (d : TypeDesc) (hc : ∀ j v, cs[j]? = some v → w.cell? (ad.add j) = some v)
    (hu : P.underlying ty = some d) (hd : d.isRow = true) (hi : (P.info? ty).map (·.size) = some cs.length) :
    (loadVar ty ad).run P w = .ok (.agg cs.toArray) w := by
  have hl : (loadCells ad cs.length).run P w = .ok cs.toArray w := run_loadCells_list (P := P) w ad cs hc
  cases hq : P.info? ty with
  | none => simp [hq] at hi
  | some i =>
    have hs : i.size = cs.length := by simpa [hq] using hi
    have hagg : (isAgg ty).run P w = .ok true w := by
      unfold isAgg
      rw [Sem.run_bind, run_underlying hu w]
      cases d <;> simp_all
    simp [loadVar, Sem.run_bind, hagg, sizeOf, typeInfo, hq, hs, hl]
theorem wpList_load_at {ops : Array Oper} {rest : List Oper} {op : Oper} {a : Act} {w : World} {Q : Exit → Act → World → Prop} (hgd : op.guard = none) (ty : TypeId) (x : Operand) (ho : op.op = .load ty x)
    (ad : Addr) (hx : a.eval x = .pointer (some ad)) (cs : List Value) (d : TypeDesc) (hc : ∀ j v, cs[j]? = some v → w.cell? (ad.add j) = some v)
    (hu : P.underlying ty = some d) (hd : d.isRow = true) (hi : (P.info? ty).map (·.size) = some cs.length)
    (h : wpList P ops Q rest (a.put op.dst (.agg cs.toArray)) w) : wpList P ops Q (op :: rest) a w :=
  wpList_plain hgd fun _ hK => by
    unfold Oper.wp execOp
    simp only [ho, hx, Instr.loadAt, Instr.sureAddr, Sem.run_bind, Sem.run_pure, Result.andThen_ok, run_loadVar_at w ad ty cs d hc hu hd hi]
    exact hK _ _ h
theorem wpStill_load_at {ops : Array Oper} {rest : List Oper} {op : Oper} {a : Act} {w : World} {Q : Act → Prop} (hgd : op.guard = none) (ty : TypeId) (x : Operand) (ho : op.op = .load ty x)
    (ad : Addr) (hx : a.eval x = .pointer (some ad)) (cs : List Value) (d : TypeDesc) (hc : ∀ j v, cs[j]? = some v → w.cell? (ad.add j) = some v)
    (hu : P.underlying ty = some d) (hd : d.isRow = true) (hi : (P.info? ty).map (·.size) = some cs.length)
    (h : wpStill P ops w Q rest (a.put op.dst (.agg cs.toArray))) : wpStill P ops w Q (op :: rest) a := by
  unfold wpStill
  rw [if_pos (by simp [Region.wanted, hgd])]
  unfold Oper.still execOp
  simp only [ho, hx, Instr.loadAt, Instr.sureAddr, Sem.run_bind, Sem.run_pure, Result.andThen_ok, run_loadVar_at w ad ty cs d hc hu hd hi]
  rw [Oper.stillUpon_value]
  exact h
theorem fill_one (k : Nat) (hk : 0 < k) (xs : List Value) (hx : xs.length = k) (cells : Array Value) (hc : cells.size = k) : Instr.fill (fun i => some (i * k, k)) cells [(0, .agg xs.toArray)] = some xs.toArray := by
  obtain ⟨r, h1, h2, h3⟩ := Great.fill_dense hk [.agg xs.toArray] 0 cells (fun v hv => by rw [List.mem_singleton.1 hv]; simp [Value.cells, hx]) (by simp [hc])
  have e : (([Value.agg xs.toArray].zipIdx 0).map fun x => (x.2, x.1)) = [(0, .agg xs.toArray)] := rfl
  rw [e] at h1
  rw [h1]
  congr 1
  apply Array.ext_getElem?
  intro j
  rw [h3 j]
  by_cases hj : j < k
  · rw [if_pos (by simp; omega), Nat.div_eq_of_lt hj, Nat.mod_eq_of_lt hj]
    simp [Value.cells]
  · rw [if_neg (by simp; omega), Array.getElem?_eq_none (by omega), Array.getElem?_eq_none (by simp; omega)]
theorem wpList_build_one {ops : Array Oper} {rest : List Oper} {o : Oper} {a : Act} {w : World} {Q : Exit → Act → World → Prop} (hg : o.guard = none) (t e : TypeId) (x : Operand) (ho : o.op = .buildSlice t 1 #[(0, x)])
    (xs : List Value) (hx : a.eval x = .agg xs.toArray) (ie : TypeInfo) (z : Value) (k : Nat) (hu : P.underlying t = some (.slice e)) (hie : P.info? e = some ie) (hz : ie.zero = some z) (hs : ie.size = k) (hxs : xs.length = k) (hk : 0 < k) (hk2 : k ≤ 1000)
    (h : wpList P ops Q rest (a.put o.dst (.slice (some ⟨w.heap.size, 0, none⟩) 1 1)) (w.alloc (.cells xs.toArray e))) : wpList P ops Q (o :: rest) a w := by
  refine wpList_buildSlice hg t e 1 #[(0, x)] ho xs.toArray ie z hu hie hz (by rw [hs]; omega) (by rw [hs]; omega) ?_ h
  have e : ((#[(0, x)] : Array (Nat × Operand)).map fun (i, x) => (i, a.eval x)).toList = [(0, .agg xs.toArray)] := by simp [hx]
  rw [e, hs]
  exact fill_one k hk xs hxs _ (by simp)
theorem step_build_one {ops : Array Oper} {o : Oper} {a : Act} {w : World} {K : Act → World → Prop} {Q : Exit → Act → World → Prop} {E : Prop} (hg : o.guard = none) (t e : TypeId) (x : Operand) (ho : o.op = .buildSlice t 1 #[(0, x)])
    (xs : List Value) (hx : a.eval x = .agg xs.toArray) (ie : TypeInfo) (z : Value) (k : Nat) (hu : P.underlying t = some (.slice e)) (hie : P.info? e = some ie) (hz : ie.zero = some z) (hs : ie.size = k) (hxs : xs.length = k) (hk : 0 < k) (hk2 : k ≤ 1000)
    (h : K (a.put o.dst (.slice (some ⟨w.heap.size, 0, none⟩) 1 1)) (w.alloc (.cells xs.toArray e))) : if Region.wanted o (yielded ops a.tmps) = true then Oper.wp P o a w K Q else E := by
  rw [if_pos (by simp [Region.wanted, hg])]
  refine wp_buildSlice t e 1 #[(0, x)] ho xs.toArray ie z hu hie hz (by rw [hs]; omega) (by rw [hs]; omega) ?_ h
  have e : ((#[(0, x)] : Array (Nat × Operand)).map fun (i, x) => (i, a.eval x)).toList = [(0, .agg xs.toArray)] := by simp [hx]
  rw [e, hs]
  exact fill_one k hk xs hxs _ (by simp)
/-- A struct is stored into the block that was made last. -/
theorem wpList_store_new {ops : Array Oper} {rest : List Oper} {op : Oper} {a : Act} {w0 : World} {Q : Exit → Act → World → Prop} (hgd : op.guard = none) (ty : TypeId) (x y : Operand) (ho : op.op = .store ty x y)
    (c : Array Value) (cs : Array Value) (hx : a.eval x = .pointer (some ⟨w0.heap.size, 0, none⟩)) (hy : a.eval y = .agg cs)
    (hi : (P.info? ty).map (·.size) = some cs.size) (hc : c.size = cs.size) (h1 : cs.all (·.oneCell') = true)
    (h : wpList P ops Q rest (a.put op.dst undef) (w0.alloc (.cells cs ty))) : wpList P ops Q (op :: rest) a (w0.alloc (.cells c ty)) :=
  wpList_plain hgd fun _ hK => by
    unfold Oper.wp execOp
    simp only [ho, hx, hy, Instr.storeAt, Instr.sureAddr, Sem.run_bind, Sem.run_pure, Result.andThen_ok, run_storeVar_new w0 ty c cs hi hc h1]
    exact hK _ _ h
end
theorem isK_one {k : K} {v : Value} (h : IsK k v) : v.oneCell' = true := by
  cases k <;> (obtain ⟨z, rfl⟩ := h; rfl)
theorem fits_one : ∀ {ks : List K} {vs : List Value}, Fits ks vs → ∀ v ∈ vs, v.oneCell' = true
  | [], vs, h, v, hv => by rw [show vs = [] from h] at hv; cases hv
  | k :: ks, vs, h, v, hv => by
    obtain ⟨x, r, rfl, hk, hr⟩ := h
    rcases List.mem_cons.1 hv with rfl | hv
    · exact isK_one hk
    · exact fits_one hr v hv
theorem rows_take (rows : List (List Value)) (i : Nat) (x : List Value) (h : rows[i]? = some x) : (rows.take (i + 1)).flatMap encs = (rows.take i).flatMap encs ++ encs x := by
  rw [List.take_add_one, h]; simp
theorem rows_le (rows : List (List Value)) (i : Nat) : ((rows.take i).flatMap encs).length ≤ (rows.flatMap encs).length := by
  have : rows.flatMap encs = (rows.take i).flatMap encs ++ (rows.drop i).flatMap encs := by rw [← List.flatMap_append, List.take_append_drop]
  rw [this, List.length_append]; omega
theorem own_ne {w : World} {B n k : Nat} {e T : TypeId} {v : Value} {xs vs : List Value} {b : Nat} (h : w.ownsRow B e k v n xs) (hc : Cs b T vs w) (hT : e ≠ T) : v.ownBlock ≠ some b := by
  rcases h.2 with ⟨rfl, _⟩ | ⟨g, cap, cur, rfl, _, hg, _⟩
  · simp [Value.ownBlock]
  · simp only [Value.ownBlock]
    intro q
    cases q
    unfold Cs at hc
    rw [hc] at hg
    cases hg
    exact hT rfl
theorem Fr.of_grown {w w' : World} {row : Option Nat} (h : w.grownBy w' row) : Fr (fun i => row = some i) w w' := ⟨h.os, h.tape, h.output, h.size, fun i hi hn => h.block i hi fun e => hn e.symm⟩
theorem own_shape {w : World} {B n k : Nat} {e : TypeId} {v : Value} {xs : List Value} (h : w.ownsRow B e k v n xs) : ∃ A c, v = .slice A n c := by
  rcases h.2 with ⟨rfl, h0⟩ | ⟨g, cap, cur, rfl, _⟩
  · exact ⟨none, 0, by rw [h0]⟩
  · exact ⟨_, _, rfl⟩
theorem own_same {w w' : World} {B n k : Nat} {e : TypeId} {v : Value} {xs : List Value} (h : w.ownsRow B e k v n xs) (hs : ∀ g, v.ownBlock = some g → w'.heap[g]? = w.heap[g]?) : w'.ownsRow B e k v n xs := by
  refine ⟨h.1, ?_⟩
  rcases h.2 with ho | ⟨g, cap, cur, hv, hg, hgh, rest⟩
  · exact .inl ho
  · exact .inr ⟨g, cap, cur, hv, hg, (hs g (by rw [hv]; rfl)).trans hgh, rest⟩
/-- What is read of a list: the wire behind it, the rows, where they lie. -/
structure LRd (wb hb j : Nat) (HT T : TypeId) (k : Nat) (hcs : List Value) (B : Nat) (p : Rd × List (List Value)) (v : Value) (w w' : World) : Prop where
  rw : Rw wb p.1 w'
  cs : Cs hb HT (hcs.set j v) w'
  row : w'.ownsRow B T k v p.2.length p.2.flatten
  fr : Fr (fun i => i = wb ∨ i = hb) w w'
def ListRd (wb hb j : Nat) (HT T : TypeId) (k : Nat) (hcs : List Value) (p : Rd × List (List Value)) (w : World) (e : Ending) (w' : World) : Prop := e = .returned (.tuple #[]) ∧ ∃ v, LRd wb hb j HT T k hcs w.heap.size p v w w'
theorem LRd.push {wb hb j : Nat} {HT T : TypeId} {k B : Nat} {hcs : List Value} {st' : Rd} {rows : List (List Value)} {x : List Value} {v v' : Value} {w w1 : World} (hB : B = w.heap.size) (hT : HT ≠ T) (hwT : T ≠ 110) {W2 : World}
    (hr : Rw wb st' W2) (hc : Cs hb HT (hcs.set j v) W2) (hrow : W2.ownsRow B T k v rows.length rows.flatten) (hf : Fr (fun i => i = wb ∨ i = hb) w W2)
    (hown : w1.ownsRow B T k v' (rows.length + 1) (rows.flatten ++ x)) (hg : W2.grownBy w1 v.ownBlock) (hne : hb ≠ wb) (hv' : v'.ownBlock ≠ some hb) :
    LRd wb hb j HT T k hcs B (st', rows ++ [x]) v' w (w1.setCell ⟨hb, j, none⟩ v') := by
  have n1 : v.ownBlock ≠ some wb := own_ne hrow hr hwT
  have n2 : v.ownBlock ≠ some hb := own_ne hrow hc (Ne.symm hT)
  refine ⟨?_, ?_, ?_, ?_⟩
  · exact Cs.other (Cs.keep hr (hg.block wb (Cs.lt hr) (fun e => n1 e.symm))) _ _ hne
  · have := (Cs.keep hc (hg.block hb (Cs.lt hc) (fun e => n2 e.symm))).set j v'
    rw [List.set_set] at this
    exact this
  · have e : (rows ++ [x]).length = rows.length + 1 := by simp
    have e2 : (rows ++ [x]).flatten = rows.flatten ++ x := by simp
    show (w1.setCell ⟨hb, j, none⟩ v').ownsRow B T k v' (rows ++ [x]).length (rows ++ [x]).flatten
    rw [e, e2]
    exact own_same hown fun g hgg => Below.heap_setCell w1 ⟨hb, j, none⟩ v' g (fun q => hv' (by rw [hgg, q]))
  · refine (hf.trans (Fr.of_grown hg) fun i hi => .inr ?_).set _ _ (.inl (.inr rfl))
    rw [← hB]
    exact (hrow.lt i hi).1
theorem LRd.drew {wb hb j : Nat} {HT T : TypeId} {k B : Nat} {hcs : List Value} {p : Rd × List (List Value)} {v : Value} {w w' : World} (h : LRd wb hb j HT T k hcs B p v w w') : LRd wb hb j HT T k hcs B p v w w'.drew := ⟨h.rw, h.cs, h.row.drew, h.fr.drew⟩
theorem infoParts {z : Option Value} {s b : Nat} {T : TypeId} (h : (Tryz.prog.info? T).map (fun i => (i.zero, i.size, i.bytes)) = some (z, s, b)) : ∃ i, Tryz.prog.info? T = some i ∧ i.zero = z ∧ i.size = s ∧ i.bytes = b := by
  cases hi : Tryz.prog.info? T with
  | none => rw [hi] at h; cases h
  | some i =>
    rw [hi] at h
    simp only [Option.map_some, Option.some.injEq, Prod.mk.injEq] at h
    exact ⟨i, rfl, h.1, h.2.1, h.2.2⟩
end Go.Proofs.YtgdoodeibcfcjaaGreat.Wire
