/- sameCmd of equal commands. Printed by csamecmd.py. -/
import Derived.Test.YtgdoodeibcfcjaaCSameH
import Derived.Deep.QuietTactic
import Derived.BigQuiet
set_option linter.unusedVariables false
set_option linter.unusedSimpArgs false
namespace Go.Proofs.Ytgdoodeibcfcjaa.Wire
open Go.RowKit Go.Proofs.Ytgdoodeibcfcjaa.NumsPure Go.Proofs.Ytgdoodeibcfcjaa.CPure Go.Proofs.Ytgdoodeibcfcjaa.Own
theorem RowA.one {w : World} {A : Option Addr} {k : K} {c : Nat} {rows : List (List Value)} (h : RowA w A 1 [k] c rows) {i : Nat} (hi : i < rows.length) : ∃ a v, A = some a ∧ IsK k v ∧ w.cell? (a.add i) = some v := by
  obtain ⟨a, rfl, hb, hc⟩ := h.at_ (by omega)
  have hx : rows[i]? = some rows[i] := List.getElem?_eq_getElem hi
  obtain ⟨v, r, e, hk, hr⟩ := h.fits _ (List.mem_of_getElem? hx)
  obtain rfl : r = [] := hr
  have := hc i _ hx 0 v (by rw [e]; rfl)
  rw [Nat.mul_one, Nat.add_zero] at this
  exact ⟨a, v, rfl, hk, this⟩
theorem RowA.both {w : World} {A B : Option Addr} {k : K} {c d : Nat} {rows : List (List Value)} (h : RowA w A 1 [k] c rows) (h' : RowA w B 1 [k] d rows) {i : Nat} (hi : i < rows.length) : ∃ a b v, A = some a ∧ B = some b ∧ IsK k v ∧ w.cell? (a.add i) = some v ∧ w.cell? (b.add i) = some v := by
  obtain ⟨a, rfl, hb, hc⟩ := h.at_ (by omega)
  obtain ⟨b, rfl, hb', hc'⟩ := h'.at_ (by omega)
  have hx : rows[i]? = some rows[i] := List.getElem?_eq_getElem hi
  obtain ⟨v, r, e, hk, hr⟩ := h.fits _ (List.mem_of_getElem? hx)
  have h1 := hc i _ hx 0 v (by rw [e]; rfl)
  have h2 := hc' i _ hx 0 v (by rw [e]; rfl)
  rw [Nat.mul_one, Nat.add_zero] at h1 h2
  exact ⟨a, b, v, rfl, rfl, hk, h1, h2⟩
set_option maxHeartbeats 16000000 in
set_option maxRecDepth 100000 in
theorem sameCmd_any {A1 A2 B1 B2 : Option Addr} {c1 c2 d1 d2 : Nat} {n : Int} {T I : List (List Value)} {w : World} (h1 : RowA w A1 1 ks_str c1 T) (h2 : RowA w A2 1 ks_int c2 I) (h3 : RowA w B1 1 ks_str d1 T) (h4 : RowA w B2 1 ks_int d2 I) :
    Calls Try.prog 12 #[.agg #[.int .i64 n, .slice A1 T.length c1, .slice A2 I.length c2], .agg #[.int .i64 n, .slice B1 T.length d1, .slice B2 I.length d2]] w (YesB w) := by
  obtain ⟨nt, hnt⟩ : ∃ k, k = T.length := ⟨_, rfl⟩
  obtain ⟨ni, hni⟩ : ∃ k, k = I.length := ⟨_, rfl⟩
  rw [← hnt, ← hni]
  have fnt : nt ≤ 100000000 := by rw [hnt]; exact h1.few
  have fni : ni ≤ 100000000 := by rw [hni]; exact h2.few
  have HN := Aside0.mk (And.intro hnt hni)
  have HR := Aside0.mk (And.intro h1 (And.intro h2 (And.intro h3 h4)))
  clear h1 h2 h3 h4 hnt hni
  go_enter Try.func12, Try.ntmps12
  go_wp2_with (fail)
  obtain ⟨W, hW⟩ : ∃ W, W = (w.alloc (.cells #[.int .i64 n, .slice A1 nt c1, .slice A2 ni c2] 44)).alloc (.cells #[.int .i64 n, .slice B1 nt d1, .slice B2 ni d2] 44) := ⟨_, rfl⟩
  have hB : Below w.heap.size w W := by rw [hW]; exact ((Below.refl _ w).alloc (Nat.le_refl _) _).alloc (by simp) _
  have g0 : Cs w.heap.size 44 [.int .i64 n, .slice A1 nt c1, .slice A2 ni c2] W := by
    rw [hW]
    exact Cs.keep (cs_alloc w _ _ _ rfl) ((alloc_below _ _).block _ (by simp))
  have g1 : Cs (w.heap.size + 1) 44 [.int .i64 n, .slice B1 nt d1, .slice B2 ni d2] W := by
    have k := cs_alloc (w.alloc (.cells #[.int .i64 n, .slice A1 nt c1, .slice A2 ni c2] 44)) #[.int .i64 n, .slice B1 nt d1, .slice B2 ni d2] 44 _ rfl
    have e : (w.alloc (.cells #[.int .i64 n, .slice A1 nt c1, .slice A2 ni c2] 44)).heap.size = w.heap.size + 1 := by simp
    rw [e, ← hW] at k
    exact k
  have HB := Aside0.mk hB
  have HT : Aside0 (RowA W A1 1 ks_str c1 T ∧ RowA W B1 1 ks_str d1 T) := ⟨HR.out.1.below hB, HR.out.2.2.1.below hB⟩
  have HI : Aside0 (RowA W A2 1 ks_int c2 I ∧ RowA W B2 1 ks_int d2 I) := ⟨HR.out.2.1.below hB, HR.out.2.2.2.below hB⟩
  rw [← hW]
  clear hW hB HR
  have e1 := g0.cell 1
  have e2 := g0.cell 2
  have e3 := g1.cell 1
  have e4 := g1.cell 2
  simp only [List.getElem?_cons_zero, List.getElem?_cons_succ] at e1 e2 e3 e4
  clear g0 g1
  go_wp2_with (fail)
  go_loopw [5] (fun v wr => ∃ i m : Nat, i ≤ nt ∧ v = .int .i64 i ∧ wr = W.drewN m) (fun v _ => nt - (intOf v).toNat)
  case atStart => exact ⟨0, 0, by omega, rfl, rfl⟩
  case round =>
    obtain ⟨i, m, hi, rfl, rfl⟩ := hrel
    by_cases hlt : i < nt
    · obtain ⟨a, b, v, ea, eb, hk, q1, q2⟩ := HT.out.1.both HT.out.2 (i := i) (by have := HN.out.1; omega)
      obtain ⟨s, rfl⟩ := hk
      have hi1 : (0 : Int) ≤ (i : Int) := by omega
      have hi2 : (i : Int) < (nt : Int) := by omega
      subst ea
      subst eb
      go_wp2_with (fail)
      go_quiet (fail)
      go_wp2
      go_roundw
      case rel => exact ⟨i + 1, _, by omega, by go_num, by first | rfl | exact World.drewN_drewN _ _ _⟩
      case measure => simp [intOf]; omega
    · obtain rfl : i = nt := by omega
      go_wp2_with (fail)
      go_loopw [6] (fun v wr => ∃ i m : Nat, i ≤ ni ∧ v = .int .i64 i ∧ wr = W.drewN m) (fun v _ => ni - (intOf v).toNat)
      case atStart => exact ⟨0, m, by omega, rfl, rfl⟩
      case round =>
        obtain ⟨i2, m2, hi, rfl, rfl⟩ := hrel
        by_cases hlt : i2 < ni
        · obtain ⟨a, b, v, ea, eb, hk, q1, q2⟩ := HI.out.1.both HI.out.2 (i := i2) (by have := HN.out.2; omega)
          obtain ⟨s, rfl⟩ := hk
          have hi1 : (0 : Int) ≤ (i2 : Int) := by omega
          have hi2 : (i2 : Int) < (ni : Int) := by omega
          subst ea
          subst eb
          go_wp2_with (fail)
          go_quiet (fail)
          go_wp2
          go_roundw
          case rel => exact ⟨i2 + 1, _, by omega, by go_num, by first | rfl | exact World.drewN_drewN _ _ _⟩
          case measure => simp [intOf]; omega
        · obtain rfl : i2 = ni := by omega
          go_wp2
          go_ret
          exact ⟨rfl, HB.out.trans (below_drewN _ _ _)⟩
end Go.Proofs.Ytgdoodeibcfcjaa.Wire
