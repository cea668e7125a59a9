/- A list of whole numbers in memory, and the law's own comparison of two of them. -/
import Derived.Test.YtdjcaogffppdhaaMedW
import Derived.Laws.OwnMore
import Derived.Deep.AppendLies
import Derived.Deep.QuietTactic
import Derived.BigQuiet
set_option linter.unusedVariables false
set_option linter.unusedSimpArgs false
namespace Go.Proofs.Ytdjcaogffppdhaa.Lst
open Go.RowKit Go.Proofs.YtdjcaogffppdhaaW.PrintWords Go.Proofs.YtdjcaogffppdhaaW.PrintLast Go.Proofs.YtdjcaogffppdhaaW.PrintMore
/-- v is a slice that holds the numbers l, in block g. -/
def Lst (w : World) (v : Value) (l : List Int) : Prop :=
  (v = .slice none 0 0 ∧ l = []) ∨ ∃ g c, v = .slice (some ⟨g, 0, none⟩) l.length c ∧ g < w.heap.size ∧ l.length ≤ c ∧ c ≤ 9223372036854775807 ∧ ∀ j, j < l.length → w.cell? ⟨g, j, none⟩ = some (.int .i64 (l.getD j 0))
theorem Lst.of_row {w : World} {B : Nat} {e : TypeId} {v : Value} {l : List Int} (h : w.ownsRow B e 1 v l.length (l.map (Value.int .i64))) : Lst w v l := by
  rcases h.2 with ⟨e, h0⟩ | ⟨g, cap, cur, e, hb, hg, h1, h2, h3, h4⟩
  · exact .inl ⟨e, List.eq_nil_of_length_eq_zero h0⟩
  · refine .inr ⟨g, cap, e, (Array.getElem?_eq_some_iff.1 hg).1, h1, h2, fun j hj => ?_⟩
    subst e
    rw [h.cellAt j (by omega)]
    simp [List.getD_eq_getElem?_getD, hj]
theorem Lst.same {w w' : World} {v : Value} {l : List Int} (h : Lst w v l) (hs : w.heap.size ≤ w'.heap.size) (k : ∀ g, v.ownBlock = some g → w'.heap[g]? = w.heap[g]?) : Lst w' v l := by
  rcases h with h | ⟨g, c, e, hg, h1, h2, h3⟩
  · exact .inl h
  · refine .inr ⟨g, c, e, by omega, h1, h2, fun j hj => ?_⟩
    have := k g (by rw [e]; rfl)
    rw [← h3 j hj]
    simp [World.cell?, this]
theorem Lst.below {w w' : World} {v : Value} {l : List Int} (h : Lst w v l) (k : Below w.heap.size w w') : Lst w' v l := h.same k.size fun g hg => by
  rcases h with ⟨e, _⟩ | ⟨g', c, e, hg', _⟩
  · rw [e] at hg; cases hg
  · rw [e] at hg
    obtain rfl : g' = g := by simpa [Value.ownBlock] using hg
    exact k.block _ hg'
set_option maxHeartbeats 16000000 in
set_option maxRecDepth 100000 in
theorem ints_calls {w : World} {v v' : Value} {l : List Int} (h : Lst w v l) (h' : Lst w v' l) (hl : l.length ≤ 1000000000) :
    Calls Try.prog 26 #[v, v'] w fun e w' => e = .returned (.bool true) ∧ ∃ m, w' = w.drewN m := by
  rcases h with ⟨rfl, rfl⟩ | ⟨g, c, rfl, hg, h1, h2, h3⟩
  · rcases h' with ⟨rfl, _⟩ | ⟨g', c', rfl, hg', h1', h2', h3'⟩
    · go_enter Try.func26, Try.ntmps26
      go_wp2
      refine wp_loop_rounds 1 ?_
      rw [rounds_succ]
      go_wp2
      go_ret
      exact ⟨rfl, 0, rfl⟩
    · clear h3'
      go_enter Try.func26, Try.ntmps26
      go_wp2
      refine wp_loop_rounds 1 ?_
      rw [rounds_succ]
      go_wp2
      go_ret
      exact ⟨rfl, 0, rfl⟩
  · rcases h' with ⟨rfl, rfl⟩ | ⟨g', c', rfl, hg', h1', h2', h3'⟩
    · clear h3
      go_enter Try.func26, Try.ntmps26
      go_wp2
      refine wp_loop_rounds 1 ?_
      rw [rounds_succ]
      go_wp2
      go_ret
      exact ⟨rfl, 0, rfl⟩
    · have HC : Aside0 (∀ j, j < l.length → w.cell? ⟨g, j, none⟩ = some (.int .i64 (l.getD j 0)) ∧ w.cell? ⟨g', j, none⟩ = some (.int .i64 (l.getD j 0))) := ⟨fun j hj => ⟨h3 j hj, h3' j hj⟩⟩
      clear h3 h3'
      generalize l.length = n at *
      go_enter Try.func26, Try.ntmps26
      go_wp2
      go_loopw [5] (fun v5 wr => ∃ i m : Nat, i ≤ n ∧ v5 = .int .i64 i ∧ wr = w.drewN m) (fun v5 _ => n - (intOf v5).toNat)
      case atStart => exact ⟨0, 0, by omega, rfl, rfl⟩
      case round =>
        obtain ⟨i, m, hi, rfl, rfl⟩ := hrel
        by_cases hlt : i < n
        · obtain ⟨d1, d2⟩ := HC.out i hlt
          generalize l.getD i 0 = z at *
          have b1 : (0 : Int) ≤ (i : Int) := by omega
          have b2 : (i : Int) < (n : Int) := by omega
          go_wp2
          go_quiet (fail)
          all_goals
            go_wp2
            go_roundw
            case rel => exact ⟨i + 1, _, by omega, by go_num, rfl⟩
            case measure => simp [intOf]; omega
        · go_wp2
          go_ret
          exact ⟨rfl, m, rfl⟩
end Go.Proofs.Ytdjcaogffppdhaa.Lst
