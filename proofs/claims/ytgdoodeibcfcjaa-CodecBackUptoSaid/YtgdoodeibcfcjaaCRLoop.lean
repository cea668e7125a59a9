/- The reference's loops: what stands at a round's head, behind a round, and at the end. -/
import Derived.Test.YtgdoodeibcfcjaaCRefK
import Derived.Test.YtgdoodeibcfcjaaCMain
set_option linter.unusedVariables false
set_option linter.unusedSimpArgs false
namespace Go.Proofs.Ytgdoodeibcfcjaa.Wire
open Go.RowKit Go.Proofs.Ytgdoodeibcfcjaa.NumsPure Go.Proofs.Ytgdoodeibcfcjaa.CPure Go.Proofs.Ytgdoodeibcfcjaa.Own
/-- The same, but for the bytes where it is bad. -/
def Eqv (s t : Rd) : Prop := s.bad = t.bad ∧ (t.bad = false → s.D = t.D)
theorem RW.eqv {rb : Nat} {s t : Rd} {w : World} (h : RW rb s w) (k : Eqv s t) : RW rb t w := by
  obtain ⟨D', h1, h2, h3⟩ := h
  refine ⟨D', h1, fun hb => (h2 (k.1.trans hb)).trans (k.2 hb), ?_⟩
  rw [← k.1]; exact h3
/-- At a round's head: m things are still to come. -/
structure RLp (rb hb rk j : Nat) (HT T : TypeId) (k : Nat) (hcs zs : List Value) (ks : List K) (all : Rd × List (List Value)) (m : Nat) (st : Rd) (rows : List (List Value)) (v : Value) (w0 w : World) : Prop where
  eq : all = ((rdRows ks m st).1, rows ++ (rdRows ks m st).2)
  sl : st.D.length ≤ 100000000
  few : rows.length + m ≤ 100000000
  rw_ : RW rb st w
  cs : Cs hb HT (hcs.set j v) w
  rk : Cs rk HT zs w
  own : w.ownsRow w0.heap.size T k v rows.length rows.flatten
  fr : Fr (fun i => i = rb ∨ i = hb) w0 w
theorem rw_ne {w : World} {B n k : Nat} {e : TypeId} {v : Value} {xs : List Value} {s : Rd} {rb : Nat} (h : w.ownsRow B e k v n xs) (hr : RW rb s w) (hT : e ≠ 67) : v.ownBlock ≠ some rb := by
  obtain ⟨D', h1, h2, h3⟩ := hr
  exact own_ne h h3 hT
section
variable {rb hb rk j : Nat} {HT T : TypeId} {k : Nat} {hcs zs : List Value} {ks : List K} {all : Rd × List (List Value)} {m : Nat} {st : Rd} {rows : List (List Value)} {v : Value} {w0 w : World}
theorem RLp.start {n : Nat} {t : Rd} (hn : n ≤ 100000000) (hsl : t.D.length ≤ 100000000) (hr : RW rb t w) (hc : Cs hb HT hcs w) (hk : Cs rk HT zs w) (hj : hcs[j]? = some (.slice none 0 0)) (hf : Fr (fun i => i = rb ∨ i = hb) w0 w) :
    RLp rb hb rk j HT T k hcs zs ks (rdRows ks n t) n t [] (.slice none 0 0) w0 w := by
  refine ⟨by simp, hsl, by simpa using hn, hr, ?_, hk, World.ownsRow_nil _ _ _ _, hf⟩
  have : hcs.set j (.slice none 0 0) = hcs := by
    apply List.ext_getElem?
    intro q
    rw [List.getElem?_set]
    split
    · rename_i hq
      subst hq
      have hl := (List.getElem?_eq_some_iff.1 hj).1
      rw [if_pos hl]; exact hj.symm
    · rfl
  rw [this]; exact hc
/-- The end: no thing is left, or the bytes are bad. -/
theorem RLp.done (h : RLp rb hb rk j HT T k hcs zs ks all m st rows v w0 w) (he : m = 0 ∨ st.bad = true) : all = (st, rows) := by
  have : rdRows ks m st = (st, []) := by
    rcases he with rfl | hb
    · rfl
    · exact rows_done _ _ _ hb
  rw [h.eq, this]; simp
/-- A thing has been read and appended. -/
theorem RLp.push {x : List Value} {st' : Rd} {v' : Value} {WA w1 : World} (h : RLp rb hb rk j HT T k hcs zs ks all (m + 1) st rows v w0 w) (hbad : st.bad = false) (hx : rds ks st (ks.map zeroV) = (st', x))
    (hT : T ≠ 67) (hT2 : T ≠ HT) (hne : hb ≠ rb) (hkn : rk ≠ hb)
    (hr : RW rb st' WA) (hc : Cs hb HT (hcs.set j v) WA) (hk : Cs rk HT zs WA) (hrow : WA.ownsRow w0.heap.size T k v rows.length rows.flatten) (hf : Fr (fun i => i = rb ∨ i = hb) w0 WA)
    (hown : w1.ownsRow w0.heap.size T k v' (rows.length + 1) (rows.flatten ++ x)) (hg : WA.grownBy w1 v.ownBlock) (hv' : v'.ownBlock ≠ some hb) :
    RLp rb hb rk j HT T k hcs zs ks all m st' (rows ++ [x]) v' w0 (w1.setCell ⟨hb, j, none⟩ v') := by
  have n1 : v.ownBlock ≠ some rb := rw_ne hrow hr hT
  have n2 : v.ownBlock ≠ some hb := own_ne hrow hc hT2
  have n3 : v.ownBlock ≠ some rk := own_ne hrow hk hT2
  refine ⟨?_, ?_, by have := h.few; simp; omega, ?_, ?_, ?_, ?_, ?_⟩
  · rw [h.eq, rows_more ks m st hbad, hx]; simp
  · have e : st' = (rds ks st (ks.map zeroV)).1 := by rw [hx]
    rw [e, ← rd_all _ _ _ (by simp)]
    exact Nat.le_trans (rdAt_len _ _).1 h.sl
  · exact (hr.other (hg.block rb hr.lt (fun e => n1 e.symm))).other (Below.heap_setCell w1 ⟨hb, j, none⟩ v' rb (fun e => hne e.symm))
  · have := (Cs.keep hc (hg.block hb (Cs.lt hc) (fun e => n2 e.symm))).set j v'
    rw [List.set_set] at this
    exact this
  · exact Cs.other (Cs.keep hk (hg.block rk (Cs.lt hk) (fun e => n3 e.symm))) ⟨hb, j, none⟩ v' (fun e => hkn e.symm)
  · have e : (rows ++ [x]).length = rows.length + 1 := by simp
    have e2 : (rows ++ [x]).flatten = rows.flatten ++ x := by simp
    rw [e, e2]
    exact own_same hown fun g hgg => Below.heap_setCell w1 ⟨hb, j, none⟩ v' g (fun q => hv' (by rw [hgg, q]))
  · exact (hf.trans (Fr.of_grown hg) fun i hi => .inr (hrow.lt i hi).1).set _ _ (.inl (.inr rfl))
theorem RLp.shape (h : RLp rb hb rk j HT T k hcs zs ks all m st rows v w0 w) : ∃ A c, v = .slice A rows.length c := own_shape h.own
end
end Go.Proofs.Ytgdoodeibcfcjaa.Wire
