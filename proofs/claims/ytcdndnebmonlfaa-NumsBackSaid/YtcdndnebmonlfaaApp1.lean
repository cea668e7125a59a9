/- append of one byte to a slice that the call itself has made, where its new length is at most 211106232532992 (2^47 + 2^46): what Go's growth asks for from there stays below 2^48. -/
import Derived.Laws.AppendOwn
import Derived.Laws.OwnMore
import Derived.WalkKit
set_option linter.unusedVariables false
namespace Go.Proofs.Ytcdndnebmonlfaa.App1
open Go.RowKit
theorem next_one (old : Nat) (h : old ≤ 211106232532992) : Builtin.nextslicecap (old + 1) old ≤ 281474976710656 := by
  unfold Builtin.nextslicecap
  by_cases h1 : old + 1 > 2 * old
  · rw [if_pos h1]; omega
  · rw [if_neg h1]
    by_cases h2 : old < 256
    · rw [if_pos h2]; omega
    · rw [if_neg h2]
      simp only [Builtin.growBy]
      rw [if_neg (by omega), if_pos (by omega)]
      omega
section
variable {P : Program} (w : World)
theorem run_append_one (base : Nat) (t ty e : TypeId) (i : TypeInfo) (z : Value) (ht : P.underlying t = some (.slice e)) (hi : P.info? e = some i) (hz : i.zero = some z)
    (hsize : i.size = 1) (hby : i.bytes = 1) (hzs : z.cells.size = 1)
    (v : Value) (n : Nat) (xs : List Value) (hown : w.ownsRow base e 1 v n xs)
    (a : Addr) (c : Nat) (u : Value) (hu : w.cell? a = some u) (h1 : u.oneCell' = true) (hn : n + 1 ≤ 211106232532992) (hbase : base ≤ w.heap.size) :
    ∃ v' w', (Builtin.append_ #[t, t] ty #[v, .slice (some a) 1 c]).run P w = .ok v' w' ∧ w'.ownsRow base e 1 v' (n + 1) (xs ++ [u]) ∧ w.grownBy w' v.ownBlock := by
  have hnews : ∀ j x, ([u] : List Value)[j]? = some x → w.cell? (a.add j) = some x := by
    intro j x hx
    match j, hx with
    | 0, hx => simp at hx; subst hx; simpa [Addr.add] using hu
  have hone : ∀ x ∈ ([u] : List Value), x.oneCell' = true := by intro x hx; simp at hx; subst hx; exact h1
  by_cases hs : n + 1 ≤ 140737488355328
  · obtain ⟨v', w', hr, ho, hg, _⟩ := run_append_own (P := P) w base t ty e i z 1 1 ht hi hz hsize hby hzs (by decide) v n xs hown a 1 c [u] rfl hnews hone (by unfold maxLen; omega) (by omega) hbase
    exact ⟨v', w', hr, ho, hg⟩
  · have hxl : xs.length = n := by have := hown.1; omega
    rcases hown.2 with ⟨_, h0⟩ | ⟨g, cap, cur, rfl, hbg, hgc, hnc, hcm, hcs, htake⟩
    · omega
    · have hlen : (xs ++ [u]).length = (n + 1) * 1 := by rw [List.length_append, hxl]; simp
      by_cases hroom : n + 1 ≤ cap
      · have hr := run_append_room (P := P) w t ty e i ht hi g n cap cur hgc a 1 c [u] (by rw [hsize]; rfl) hnews hone hroom (by rw [hsize, hcs]; simp; omega)
        rw [hsize] at hr
        refine ⟨_, _, hr, ⟨hlen, .inr ⟨g, cap, _, rfl, hbg, setRow_heap w g cur _ e _ hgc, hroom, hcm, ?_, ?_⟩⟩, ⟨rfl, rfl, rfl, by simp, fun k _ hk => setRow_other w g k _ (fun e => hk (by simp [Value.ownBlock, e]))⟩⟩
        · simp only [List.size_toArray, List.length_append, List.length_take, List.length_drop, Array.length_toList, List.length_singleton]
          omega
        · rw [htake, ← hlen]
          exact List.take_left
      · have hcap : cap = n := by omega
        subst hcap
        have holds : ∀ j x, xs[j]? = some x → w.cell? ((⟨g, 0, none⟩ : Addr).add j) = some x := hown.cells (g := g) rfl
        have hr := run_append_grow (P := P) w t ty e i z ht hi hz ⟨g, 0, none⟩ cap cap xs (by rw [hsize]; omega) holds a 1 c [u] (by rw [hsize]; rfl) hnews (by omega) (by omega) (by rw [hby]; have := next_one cap (by omega); omega)
        have hge := grownCap_ge w (cap + 1) cap e
        refine ⟨_, _, hr, ⟨hlen, .inr ⟨w.heap.size, _, _, rfl, hbase, heap_alloc_new w.drew _, hge, grownCap_le_maxLen w (cap + 1) cap e (by unfold maxLen; omega), ?_, ?_⟩⟩, ⟨rfl, rfl, rfl, by simp, fun k hk _ => heap_alloc_old w.drew _ hk⟩⟩
        · simp only [Array.size_append, List.size_toArray, size_zeroCells, hzs, hxl, List.length_singleton]
          omega
        · simp only [Array.toList_append]
          rw [← hlen]
          exact List.take_left
theorem wpList_append_one {ops : Array Oper} {rest : List Oper} {o : Oper} {a : Act} {Q : Exit → Act → World → Prop} (hgd : o.guard = none) (s x : Operand) (t : TypeId)
    (ho : o.op = .call { callee := .builtin .append, args := #[s, x], argTypes := #[t, t] })
    (base : Nat) (e : TypeId) (i : TypeInfo) (z : Value) (ht : P.underlying t = some (.slice e)) (hi : P.info? e = some i) (hz : i.zero = some z)
    (hsize : i.size = 1) (hby : i.bytes = 1) (hzs : z.cells.size = 1)
    (v : Value) (n : Nat) (xs : List Value) (hs : a.eval s = v) (hown : w.ownsRow base e 1 v n xs)
    (ad : Addr) (c : Nat) (u : Value) (hx : a.eval x = .slice (some ad) 1 c) (hu : w.cell? ad = some u) (h1 : u.oneCell' = true)
    (hn : n + 1 ≤ 211106232532992) (hbase : base ≤ w.heap.size)
    (h : ∀ v' w', w'.ownsRow base e 1 v' (n + 1) (xs ++ [u]) → w.grownBy w' v.ownBlock → wpList P ops Q rest (a.put o.dst v') w') : wpList P ops Q (o :: rest) a w := by
  obtain ⟨v', w', hr, h2, h3⟩ := run_append_one (P := P) w base t o.type e i z ht hi hz hsize hby hzs v n xs hown ad c u hu h1 hn hbase
  refine wpList_plain hgd fun K hK => ?_
  unfold Oper.wp execOp
  simp only [ho, resolve, invoke, builtin, Sem.run_bind, Sem.run_pure, Result.andThen_ok, List.map_toArray, List.map_cons, List.map_nil, hs, hx, hr]
  exact hK _ _ (h v' w' h2 h3)
end
end Go.Proofs.Ytcdndnebmonlfaa.App1
