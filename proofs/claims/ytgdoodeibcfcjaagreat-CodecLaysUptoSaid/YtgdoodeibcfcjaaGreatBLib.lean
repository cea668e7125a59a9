/- What the reference's Bytes is walked with: frames that are letters, regions whose operations are sure of their values. Printed by blib.py. -/
import Derived.Test.YtgdoodeibcfcjaaGreatCTJ
import Derived.Test.YtgdoodeibcfcjaaGreatDRPut
import Derived.Test.YtgdoodeibcfcjaaGreatCMain
import Derived.Test.YtgdoodeibcfcjaaGreatCSameA
import Derived.Maps.AppendAt
import Derived.IntWalk
import Derived.StillTail
import Derived.Great.Walk
import Derived.Laws.Concat
import Derived.Lib.AppendStr
set_option linter.unusedVariables false
set_option linter.unusedSimpArgs false
namespace Go.Proofs.YtgdoodeibcfcjaaGreat.Wire
open Go.RowKit Go.Proofs.YtgdoodeibcfcjaaGreat.NumsPure Go.Proofs.YtgdoodeibcfcjaaGreat.CPure Go.Proofs.YtgdoodeibcfcjaaGreat.Own
open Go.Proofs.YtgdoodeibcfcjaaGreat.Put (digits digits_lt digits_ge)
/-! ### A frame of which the low slots alone are told -/
structure Lo (L : Nat) (a a' : Act) : Prop where
  size : a'.tmps.size = a.tmps.size
  defers : a'.defers = a.defers
  low : ∀ s, s < L → a'.eval (.tmp s) = a.eval (.tmp s)
theorem Lo.refl (L : Nat) (a : Act) : Lo L a a := ⟨rfl, rfl, fun _ _ => rfl⟩
theorem Lo.trans {L : Nat} {a b c : Act} (h : Lo L a b) (k : Lo L b c) : Lo L a c := ⟨k.size.trans h.size, k.defers.trans h.defers, fun s hs => (k.low s hs).trans (h.low s hs)⟩
theorem put_size (a : Act) (d : Option Nat) (v : Value) : (a.put d v).tmps.size = a.tmps.size := by cases d <;> simp [Act.put]
theorem put_defers (a : Act) (d : Option Nat) (v : Value) : (a.put d v).defers = a.defers := by cases d <;> rfl
theorem put_none (a : Act) (v : Value) : a.put none v = a := rfl
theorem put_same {a : Act} {d : Nat} (v : Value) (h : d < a.tmps.size) : (a.put (some d) v).eval (.tmp d) = v := by
  simp [Act.put, Act.eval, Array.getD_eq_getD_getElem?, h]
theorem put_other {a : Act} {d s : Nat} (v : Value) (h : s ≠ d) : (a.put (some d) v).eval (.tmp s) = a.eval (.tmp s) := by
  simp [Act.put, Act.eval, Array.getD_eq_getD_getElem?, Array.getElem?_setIfInBounds, h.symm]
theorem Lo.put {L : Nat} {a b : Act} (h : Lo L a b) {d : Nat} (v : Value) (hd : L ≤ d) : Lo L a (b.put (some d) v) :=
  ⟨(put_size _ _ _).trans h.size, (put_defers _ _ _).trans h.defers, fun s hs => (put_other v (by omega)).trans (h.low s hs)⟩
/-! ### Operations by what they are -/
section
variable {P : Program} {ops : Array Oper} {rest : List Oper} {o : Oper} {a : Act} {w : World} {Q : Exit → Act → World → Prop}
theorem wpList_run (hg : o.guard = none) (v : Value) (hv : (execOp a.eval o).run P w = .ok (.value v) w) (h : wpList P ops Q rest (a.put o.dst v) w) : wpList P ops Q (o :: rest) a w :=
  wpList_plain hg fun K hK => by
    unfold Oper.wp
    rw [hv]
    exact hK _ _ h
theorem wpList_mv (hg : o.guard = none) (x : Operand) (ho : o.op = .move x ∨ o.op = .assign x) (h : wpList P ops Q rest (a.put o.dst (a.eval x)) w) : wpList P ops Q (o :: rest) a w :=
  wpList_run hg _ (by unfold execOp; rcases ho with e | e <;> rw [e] <;> rfl) h
theorem wpList_callR (hg : o.guard = none) (fn : Nat) (args : Array Operand) (tys : Array TypeId) (ho : o.op = .call { callee := .value (.func fn), args := args, argTypes := tys })
    (vals : Array Value) (hv : args.map a.eval = vals) (hcf : (callFunc fn vals).run P w = .ok (.enter fn vals) w) (R : Ending → World → Prop) (hc : Calls P fn vals w R) (h : ∀ e w', R e w' → ∃ v, e = .returned v ∧ wpList P ops Q rest (a.put o.dst v) w') : wpList P ops Q (o :: rest) a w :=
  wpList_plain hg fun K hK => by
    have hrun : (execOp a.eval o).run P w = .ok (.enter fn vals) w := by
      subst hv
      unfold execOp
      simp [ho, go_sem, hcf]
    unfold Oper.wp
    rw [hrun, Oper.upon_enter]
    refine hc.mono fun e w' hr => ?_
    obtain ⟨v, rfl, hh⟩ := h e w' hr
    exact hK _ _ hh
end
theorem heap_setCells (b : Nat) : ∀ (vs : List Value) (o : Nat) (w : World) (i : Nat), i ≠ b → (w.setCells b o vs).heap[i]? = w.heap[i]?
  | [], _, _, _, _ => rfl
  | v :: r, o, w, i, hi => by
    rw [World.setCells, heap_setCells b r (o + 1) _ i hi, Below.heap_setCell _ _ _ _ (show i ≠ b from hi)]
theorem same_setCells (b : Nat) : ∀ (vs : List Value) (o : Nat) (w : World), (w.setCells b o vs).os = w.os ∧ (w.setCells b o vs).tape = w.tape ∧ (w.setCells b o vs).output = w.output ∧ (w.setCells b o vs).heap.size = w.heap.size
  | [], _, _ => ⟨rfl, rfl, rfl, rfl⟩
  | v :: r, o, w => by
    obtain ⟨h1, h2, h3, h4⟩ := same_setCells b r (o + 1) (w.setCell ⟨b, o, none⟩ v)
    rw [World.setCells]
    exact ⟨h1, h2, h3, by rw [h4]; simp⟩
section
variable {P : Program}
theorem run_storeV (w : World) (b o : Nat) (ty : TypeId) (v : Value) (cs : List Value) (hv : v.cells.toList = cs) (ht : w.there b o cs.length) (hi : (P.info? ty).map (·.size) = some cs.length) (h1 : ∀ u ∈ cs, u.oneCell' = true) :
    (storeVar ty ⟨b, o, none⟩ v).run P w = .ok () (w.setCells b o cs) := by
  have := run_storeCells_cells (P := P) b o cs 0 w (fun j hj => by simpa using (ht j (by simpa using hj)).1) (fun j hj => by simpa using (ht j (by simpa using hj)).2) h1
  cases hq : P.info? ty with
  | none => simp [hq] at hi
  | some i =>
    have hs : i.size = cs.length := by simp [hq] at hi; omega
    have hvs : v.cells.size = i.size := by rw [hs, ← hv]; simp
    simp only [Nat.add_zero] at this
    simp [storeVar, sizeOf, typeInfo, hq, hvs, hv, this]
theorem wpList_storeV {ops : Array Oper} {rest : List Oper} {op : Oper} {a : Act} {w : World} {Q : Exit → Act → World → Prop} (hgd : op.guard = none) (ty : TypeId) (x y : Operand) (ho : op.op = .store ty x y)
    (b o : Nat) (v : Value) (cs : List Value) (hx : a.eval x = .pointer (some ⟨b, o, none⟩)) (hy : a.eval y = v) (hv : v.cells.toList = cs) (ht : w.there b o cs.length) (hi : (P.info? ty).map (·.size) = some cs.length) (h1 : ∀ u ∈ cs, u.oneCell' = true)
    (h : wpList P ops Q rest (a.put op.dst undef) (w.setCells b o cs)) : wpList P ops Q (op :: rest) a w :=
  wpList_plain hgd fun _ hK => by
    unfold Oper.wp execOp
    simp only [ho, hx, hy, Instr.storeAt, Instr.sureAddr, Sem.run_bind, Sem.run_pure, Result.andThen_ok, run_storeV w b o ty v cs hv ht hi h1]
    exact hK _ _ h
end
theorem Cs.setCells {b : Nat} {T : TypeId} : ∀ (cs acc old post : List Value) (w : World), old.length = cs.length → Cs b T (acc ++ old ++ post) w → Cs b T (acc ++ cs ++ post) (w.setCells b acc.length cs)
  | [], acc, old, post, w, hl, h => by
    rw [List.length_eq_zero_iff.1 hl] at h
    exact h
  | c :: cs, acc, [], post, w, hl, h => by simp at hl
  | c :: cs, acc, o :: old, post, w, hl, h => by
    have h1 := h.set acc.length c
    have e : ((acc ++ o :: old) ++ post).set acc.length c = ((acc ++ [c]) ++ old) ++ post := by
      rw [List.append_assoc, List.set_append_right _ _ (Nat.le_refl _), Nat.sub_self]; simp
    rw [e] at h1
    have h2 := Cs.setCells cs (acc ++ [c]) old post _ (by simpa using hl) h1
    have e2 : (acc ++ [c]) ++ cs ++ post = acc ++ c :: cs ++ post := by simp
    rw [e2, List.length_append] at h2
    exact h2
theorem below_setCells {w w1 : World} (h : Below w.heap.size w w1) {b : Nat} (hb : w.heap.size ≤ b) (o : Nat) (cs : List Value) : Below w.heap.size w (w1.setCells b o cs) := by
  obtain ⟨q1, q2, q3, q4⟩ := same_setCells b cs o w1
  exact ⟨q1.trans h.os, q2.trans h.tape, q3.trans h.output, by rw [q4]; exact h.size, fun i hi => (heap_setCells b _ o w1 i (by omega)).trans (h.block i hi)⟩
/-! ### Readings -/
/-- An operation that only reads, and the same in all these worlds. -/
structure Rdo (S : World → Prop) (o : Oper) (a : Act) (v : Value) : Prop where
  g : o.guard = none
  run : ∀ w, S w → (execOp a.eval o).run Tryz.prog w = .ok (.value v) w
def Runs (S : World → Prop) (F : List Oper → Act → Prop) : Prop := ∀ (o : Oper) (rest : List Oper) (a : Act) (v : Value), Rdo S o a v → F rest (a.put o.dst v) → F (o :: rest) a
theorem runs_list {w : World} {ops : Array Oper} {Q : Exit → Act → World → Prop} : Runs (· = w) (fun l a => wpList Tryz.prog ops Q l a w) := fun o rest a v h k => wpList_run h.g v (h.run w rfl) k
theorem at_eq {w : World} {p : Addr} {u : Value} (h : w.cell? p = some u) : ∀ w1, w1 = w → w1.cell? p = some u := fun _ e => e ▸ h
section
variable {S : World → Prop} {F : List Oper → Act → Prop} {rest : List Oper} {o : Oper} {a : Act} {d : Nat}
theorem out (hF : Runs S F) (g : o.guard = none) (hd : o.dst = some d) (hz : d < a.tmps.size) (v : Value) (hr : ∀ w, S w → (execOp a.eval o).run Tryz.prog w = .ok (.value v) w) (h : ∀ a', Lo d a a' → a'.eval (.tmp d) = v → F rest a') : F (o :: rest) a := by
  refine hF o rest a v ⟨g, hr⟩ ?_
  rw [hd]
  exact h _ ((Lo.refl d a).put (d := d) v (Nat.le_refl _)) (put_same _ hz)
theorem fa_c (hF : Runs S F) {T : TypeId} {s f off : Nat} {b : Addr} (g : o.guard = none) (p : o.op = .fieldAddr T (.tmp s) f) (hd : o.dst = some d) (hz : d < a.tmps.size) (hs : a.eval (.tmp s) = .pointer (some b)) (hfa : ∀ w, (Instr.fieldAt T (.pointer (some b)) f).run Tryz.prog w = .ok (.pointer (some (b.add off))) w)
    (h : ∀ a', Lo d a a' → a'.eval (.tmp d) = .pointer (some (b.add off)) → F rest a') : F (o :: rest) a :=
  out hF g hd hz _ (fun w _ => by unfold execOp; simp only [p, hs, Sem.run_bind, hfa, Result.andThen_ok, Sem.run_pure]) h
theorem mv_c (hF : Runs S F) {s : Nat} {v : Value} (g : o.guard = none) (p : o.op = .move (.tmp s)) (hd : o.dst = some d) (hz : d < a.tmps.size) (hs : a.eval (.tmp s) = v) (h : ∀ a', Lo d a a' → a'.eval (.tmp d) = v → F rest a') : F (o :: rest) a :=
  out hF g hd hz _ (fun w _ => by unfold execOp; simp only [p, hs, Sem.run_pure]) h
theorem ix_c (hF : Runs S F) {T : TypeId} {s t i sz : Nat} {x : Value} {b : Addr} (g : o.guard = none) (p : o.op = .indexAddr T (.tmp s) (.tmp t)) (hd : o.dst = some d) (hz : d < a.tmps.size) (hs : a.eval (.tmp s) = x) (ht : a.eval (.tmp t) = .int .i64 (i : Int)) (hix : ∀ w, (Instr.indexAt T x (.int .i64 (i : Int))).run Tryz.prog w = .ok (.pointer (some (b.add (i * sz)))) w)
    (h : ∀ a', Lo d a a' → a'.eval (.tmp d) = .pointer (some (b.add (i * sz))) → F rest a') : F (o :: rest) a :=
  out hF g hd hz _ (fun w _ => by unfold execOp; simp only [p, hs, ht, Sem.run_bind, hix, Result.andThen_ok, Sem.run_pure]) h
theorem ld_c (hF : Runs S F) {T : TypeId} {s : Nat} {v : Value} {b : Addr} (g : o.guard = none) (p : o.op = .load T (.tmp s)) (hd : o.dst = some d) (hz : d < a.tmps.size) (hs : a.eval (.tmp s) = .pointer (some b)) (hag : ∀ w, (isAgg T).run Tryz.prog w = .ok false w) (hc : ∀ w, S w → w.cell? b = some v)
    (h : ∀ a', Lo d a a' → a'.eval (.tmp d) = v → F rest a') : F (o :: rest) a :=
  out hF g hd hz _ (fun w hw => by unfold execOp; simp only [p, hs]; simp [Instr.loadAt, Instr.sureAddr, loadVar, Sem.run_bind, hag, run_load, hc w hw]) h
end
/-! ### Operations that are sure of their value -/
/-- In all these worlds the operation yields this value, and leaves one of them. -/
def Sure (S : World → Prop) (o : Oper) (a : Act) (v : Value) : Prop := o.guard = none ∧ ∀ w, S w → (execOp a.eval o).run Tryz.prog w = .ok (.value v) w ∨ ∃ f args, (execOp a.eval o).run Tryz.prog w = .ok (.enter f args) w ∧ Calls Tryz.prog f args w fun e w' => e = .returned v ∧ S w'
theorem Sure.wp {S : World → Prop} {o : Oper} {a : Act} {v : Value} {w : World} {K : Act → World → Prop} {Q : Exit → Act → World → Prop} (h : Sure S o a v) (hS : S w) (k : ∀ w', S w' → K (a.put o.dst v) w') : o.wp Tryz.prog a w K Q := by
  unfold Oper.wp
  rcases h.2 w hS with e | ⟨f, args, e, hc⟩
  · rw [e, Oper.upon_value]; exact k w hS
  · rw [e, Oper.upon_enter]
    refine Calls.mono hc fun e' w' he => ?_
    obtain ⟨rfl, hs⟩ := he
    exact k w' hs
theorem Sure.same {S : World → Prop} {o : Oper} {a a' : Act} {v : Value} (h : Sure S o a v) (e : execOp a'.eval o = execOp a.eval o) : Sure S o a' v := ⟨h.1, fun w hw => by rw [e]; exact h.2 w hw⟩
def wpHs (S : World → Prop) (Q : Act → Prop) : List Oper → Act → Prop
  | [], a => Q a
  | o :: l, a => ∃ v, Sure S o a v ∧ wpHs S Q l (a.put o.dst v)
theorem runs_s {S : World → Prop} {Q : Act → Prop} : Runs S (fun l a => wpHs S Q l a) := fun o rest a v h k => ⟨v, ⟨h.g, fun w hw => .inl (h.run w hw)⟩, k⟩
/-- One behind the other. -/
theorem sure_list {S : World → Prop} {ops : Array Oper} {Q : Exit → Act → World → Prop} {tail : List Oper} : ∀ (heads : List Oper) (a : Act) (w : World), S w → wpHs S (fun a' => ∀ w', S w' → wpList Tryz.prog ops Q tail a' w') heads a → wpList Tryz.prog ops Q (heads ++ tail) a w
  | [], a, w, hS, h => h w hS
  | o :: l, a, w, hS, h => by
    obtain ⟨v, hv, h⟩ := h
    exact wpList_plain hv.1 fun K hK => hv.wp hS fun w' hS' => hK _ _ (sure_list l _ w' hS' h)
/-- Whatever order is drawn. -/
def wpU (ops : Array Oper) (S : World → Prop) (n : Nat) (L : Array Bool → Act → Prop) : Nat → Array Bool → Act → Prop
  | 0, listed, a => L listed a
  | f + 1, listed, a => Region.ready .any ops listed ≠ [] ∧ ∀ i ∈ Region.ready .any ops listed, i < n ∧ ∃ o v, ops[i]? = some o ∧ Sure S o a v ∧ wpU ops S n L f (listed.setIfInBounds i true) (a.put o.dst v)
theorem wpAny_of_U {ops : Array Oper} {S : World → Prop} {n g : Nat} {L : Array Bool → Act → Prop} {Q : Exit → Act → World → Prop} (hL : ∀ listed a w, S w → L listed a → wpAny Tryz.prog .any ops Q g listed a w) :
    ∀ (f : Nat) (listed : Array Bool) (a : Act) (w : World), S w → wpU ops S n L f listed a → wpAny Tryz.prog .any ops Q (f + g) listed a w
  | 0, listed, a, w, hS, h => by rw [Nat.zero_add]; exact hL _ _ _ hS h
  | f + 1, listed, a, w, hS, h => by
    rw [show f + 1 + g = (f + g) + 1 by omega]
    refine ⟨fun h0 => absurd h0 h.1, fun i hi => ?_⟩
    obtain ⟨_, o, v, ho, hs, hr⟩ := h.2 i hi
    unfold wpOp
    rw [ho]
    simp only [Region.wanted, hs.1, if_true]
    exact .inl (hs.wp hS fun w' hS' => wpAny_of_U hL f _ _ w' hS' hr)
theorem wpU_first {ops : Array Oper} {S : World → Prop} {n i : Nat} {oi : Oper} {v : Value} {L : Array Bool → Act → Prop} (hi : ops[i]? = some oi) (hsel : Region.noSelect ops = true) (hs : Region.sinkB .any ops n = true) (hc : Region.chainB .any ops n = true) (hn : n < ops.size) (hin : i < n)
    (hdone : ∀ listed a, L listed a → ∀ j ∈ Region.ready .any ops listed, n ≤ j) :
    ∀ (f : Nat) (listed : Array Bool) (a : Act), HeadInv .any ops n listed → (∀ j oj, ops[j]? = some oj → j ≠ i → listed.getD j true = false → (∀ e ∈ oj.after, Region.binds .any e = true → e.on ≠ i) → oi.apart ops oj = true) → i ∈ Region.ready .any ops listed → Sure S oi a v →
      wpU ops S n L f (listed.setIfInBounds i true) (a.put oi.dst v) → wpU ops S n L (f + 1) listed a := by
  intro f
  induction f with
  | zero =>
    intro listed a inv _ hr hy H
    have hun := (mem_ready.1 hr).1
    refine ⟨fun h => (by rw [h] at hr; cases hr), fun j hj => ?_⟩
    have hjn : j < n := by
      rcases Nat.lt_or_ge j n with h | h
      · exact h
      · exact absurd hj (tail_waits hs hc hn inv _ i rfl hin hun j h)
    refine ⟨hjn, ?_⟩
    by_cases hji : j = i
    · subst hji; exact ⟨oi, v, hi, hy, H⟩
    · have := hdone _ _ H j (ready_mono hj hji)
      omega
  | succ f ih =>
    intro listed a inv hfree hr hy H
    have hun := (mem_ready.1 hr).1
    refine ⟨fun h => (by rw [h] at hr; cases hr), fun j hj => ?_⟩
    have hjn : j < n := by
      rcases Nat.lt_or_ge j n with h | h
      · exact h
      · exact absurd hj (tail_waits hs hc hn inv _ i rfl hin hun j h)
    refine ⟨hjn, ?_⟩
    by_cases hji : j = i
    · subst hji; exact ⟨oi, v, hi, hy, H⟩
    · obtain ⟨_, oj, u, hoj, hju, hrest⟩ := H.2 j (ready_mono hj hji)
      obtain ⟨hjun, oj', hoj', hall⟩ := mem_ready.1 hj
      have hsame : oj' = oj := Option.some.inj (hoj'.symm.trans hoj)
      subst hsame
      have hnot : ∀ e ∈ oj'.after, Region.binds .any e = true → e.on ≠ i := fun e he hb heq => by
        have h1 := hall e he hb
        rw [heq, getD_both hun] at h1
        cases h1
      obtain ⟨a1, a2, a3⟩ := Oper.apart_spec (hfree j oj' hoj hji hjun hnot)
      have hselI : ∀ cs b, oi.op ≠ .select cs b := fun cs b => Region.noSelect_spec hsel i oi cs b hi
      have hselJ : ∀ cs b, oj'.op ≠ .select cs b := fun cs b => Region.noSelect_spec hsel j oj' cs b hoj
      refine ⟨oj', u, hoj, hju.same (execOp_put oj' hselJ a oi.dst v a1).symm, ?_⟩
      have hfree' : ∀ k ok, ops[k]? = some ok → k ≠ i → (listed.setIfInBounds j true).getD k true = false → (∀ e ∈ ok.after, Region.binds .any e = true → e.on ≠ i) → oi.apart ops ok = true := fun k ok hk hki hkun hno => by
        refine hfree k ok hk hki ?_ hno
        by_cases hjk : j = k
        · subst hjk; exact hjun
        · rw [getD_set_ne true hjk] at hkun; exact hkun
      refine ih (listed.setIfInBounds j true) _ (inv.set hj hjn) hfree' (ready_mono hr (Ne.symm hji)) (hy.same (execOp_put oi hselI a oj'.dst u a3)) ?_
      rw [Array.setIfInBounds_comm _ _ hji, ← Act.put_comm a v u a2]
      exact hrest
theorem wpU_lex {ops : Array Oper} {S : World → Prop} {n g : Nat} {T : Act → Prop} (hsel : Region.noSelect ops = true) (hs : Region.sinkB .any ops n = true) (hc : Region.chainB .any ops n = true) (hn : n < ops.size) :
    ∀ (l : List Oper) (k : Nat) (listed : Array Bool) (a : Act), (∀ j, j < l.length → l[j]? = ops[k + j]?) → k + l.length = n → HeadInv .any ops n listed → Region.lexHead .any ops g l.length k listed = true → wpHs S T l a →
      wpU ops S n (fun listed a => Region.seqB .any ops g n listed = true ∧ T a) l.length listed a
  | [], k, listed, a, hl, hk, inv, hB, h => by
    simp only [List.length_nil, Nat.add_zero] at hk
    subst hk
    exact ⟨hB, h⟩
  | o :: l, k, listed, a, hl, hk, inv, hB, h => by
    simp only [Region.lexHead, List.length_cons, Bool.and_eq_true] at hB
    obtain ⟨⟨r1, r2⟩, r3⟩ := hB
    obtain ⟨v, hv, h⟩ := h
    have o1 : ops[k]? = some o := by simpa using (hl 0 (by simp)).symm
    have hr : k ∈ Region.ready .any ops listed := by simpa using r1
    have hkn : k < n := by simp only [List.length_cons] at hk; omega
    refine wpU_first o1 hsel hs hc hn hkn (fun listed a hL j hj => seqB_ready hL.1 j hj) l.length listed a inv (Region.free_spec o1 r2) hr hv ?_
    exact wpU_lex hsel hs hc hn l (k + 1) _ _ (fun j hj => by have := hl (j + 1) (by simp; omega); simpa [Nat.add_assoc, Nat.add_comm 1 j] using this) (by simp only [List.length_cons] at hk; omega) (inv.set hr hkn) r3 h
/-- A region that draws its order: operations that are sure of their values, then a tail in its order. -/
theorem sure_region {S : World → Prop} {id : Nat} {Q : Exit → Act → World → Prop} {heads tail : List Oper} {a : Act} {w : World} (hm : Tryz.prog.follows .mixedOrders = true) (hB : Region.lexTailB .any (heads ++ tail).toArray heads.length = true) (hS : S w.drew)
    (h : wpHs S (fun a' => ∀ w', S w' → wpList Tryz.prog (heads ++ tail).toArray Q tail a' w') heads a) : (Code.region id (heads ++ tail).toArray true).wp Tryz.prog Q a w := by
  simp only [Region.lexTailB, Bool.and_eq_true, decide_eq_true_eq] at hB
  obtain ⟨⟨⟨⟨hsel, hn⟩, hs⟩, hc⟩, hlex⟩ := hB
  have hsz : (heads ++ tail).toArray.size = heads.length + tail.length := by simp
  have inv0 : HeadInv .any (heads ++ tail).toArray heads.length (Array.replicate (heads ++ tail).toArray.size false) :=
    ⟨by simp, fun j oj _ hl => (by rw [getD_replicate_false] at hl; cases hl), fun t _ ht => getD_in (by simpa using ht) (getD_replicate_false _ _)⟩
  have H := wpU_lex (S := S) (g := (heads ++ tail).toArray.size - heads.length) hsel hs hc hn heads 0 _ a (fun j hj => by simp [List.getElem?_append_left hj]) (by simp) inv0 hlex h
  refine wp_region_any hm ?_
  have e : (heads ++ tail).toArray.size = heads.length + ((heads ++ tail).toArray.size - heads.length) := by omega
  have hg : (heads ++ tail).toArray.size - heads.length = tail.length := by omega
  rw [hg] at H
  have := wpAny_of_U (Q := Q) (g := tail.length) (fun listed a w hS' hL => wpAny_of_seq tail heads.length listed a w (fun j => by rw [List.getElem?_toArray, List.getElem?_append_right (by omega), Nat.add_sub_cancel_left]) hL.1 (hL.2 w hS')) heads.length _ a _ hS H
  rw [← hsz] at this
  exact this
end Go.Proofs.YtgdoodeibcfcjaaGreat.Wire
