/- few: walked. -/
import Derived.Test.YtgdoodeibcfcjaaGreatCRCmdB
set_option linter.unusedVariables false
set_option linter.unusedSimpArgs false
namespace Go.Proofs.YtgdoodeibcfcjaaGreat.Wire
open Go.RowKit Go.Proofs.YtgdoodeibcfcjaaGreat.NumsPure Go.Proofs.YtgdoodeibcfcjaaGreat.CPure Go.Proofs.YtgdoodeibcfcjaaGreat.Own
open Go.Proofs.YtgdoodeibcfcjaaGreat.Put (digits digits_lt digits_ge)
/-- It says yes or no. -/
def SaysB (w : World) (e : Ending) (w' : World) : Prop := (e = .returned (.bool true) ∨ e = .returned (.bool false)) ∧ Below w.heap.size w w'
theorem text_in {rows : List (List Value)} {i : Nat} {s : ByteArray} (h : rows[i]? = some [.string s]) : s.size ≤ (rows.flatMap encs).length := by
  have h1 := rows_le rows (i + 1)
  rw [rows_take _ _ _ h, encs_str, List.length_append] at h1
  unfold textB at h1
  rw [List.length_append] at h1
  have e9 : s.data.toList.length = s.size := Array.length_toList
  omega
set_option maxHeartbeats 8000000 in
set_option maxRecDepth 100000 in
theorem few_any {op : Int} {A1 A2 : Option Addr} {c1 c2 : Nat} {R1 R2 : List (List Value)} {w : World} (h1 : RowA w A1 1 ks_str c1 R1) (h2 : RowA w A2 1 ks_int c2 R2) (hl : (enc_cmd R1 R2 op).length ≤ 140737488355328) :
    Calls Tryz.prog 5 #[.agg #[.int .i64 op, .slice A1 R1.length c1, .slice A2 R2.length c2]] w (SaysB w) := by
  obtain ⟨nt, hnt⟩ : ∃ k, k = R1.length := ⟨_, rfl⟩
  obtain ⟨ni, hni⟩ : ∃ k, k = R2.length := ⟨_, rfl⟩
  rw [← hnt, ← hni]
  have fnt : nt ≤ 100000000 := by rw [hnt]; exact h1.few
  have fni : ni ≤ 100000000 := by rw [hni]; exact h2.few
  have HN := Aside0.mk hnt
  have HT : Aside0 ((R1.flatMap encs).length ≤ 140737488355328) := ⟨by unfold enc_cmd encRows at hl; simp only [List.length_append] at hl; omega⟩
  have H1 := Aside0.mk h1
  clear h1 h2 hl hnt hni
  by_cases ht : 500 < nt
  · have ht1 : (500 : Int) < (nt : Int) := by omega
    go_enter Tryz.func5, Tryz.ntmps5
    go_wp2
    go_ret
    exact ⟨.inr rfl, (Below.refl _ w).alloc (Nat.le_refl _) _⟩
  by_cases hi : 2000 < ni
  · have ht1 : ¬ (500 : Int) < (nt : Int) := by omega
    have hi1 : (2000 : Int) < (ni : Int) := by omega
    go_enter Tryz.func5, Tryz.ntmps5
    go_wp2
    go_ret
    exact ⟨.inr rfl, (Below.refl _ w).alloc (Nat.le_refl _) _⟩
  have ht1 : ¬ (500 : Int) < (nt : Int) := by omega
  have hi1 : ¬ (2000 : Int) < (ni : Int) := by omega
  go_enter Tryz.func5, Tryz.ntmps5
  go_wp2_with (fail)
  obtain ⟨W, hW⟩ : ∃ W, W = w.alloc (.cells #[.int .i64 op, .slice A1 nt c1, .slice A2 ni c2] 41) := ⟨_, rfl⟩
  have hB : Below w.heap.size w W := by rw [hW]; exact (Below.refl _ w).alloc (Nat.le_refl _) _
  have g0 : Cs w.heap.size 41 [.int .i64 op, .slice A1 nt c1, .slice A2 ni c2] W := by rw [hW]; exact cs_alloc w _ _ _ rfl
  have k1 := g0.cell 1
  simp only [List.getElem?_cons_zero, List.getElem?_cons_succ] at k1
  have HW := Aside0.mk hB
  rw [← hW]
  clear hW g0 hB
  go_loopw [3, 4] (fun v3 v4 wr => ∃ (i n : Nat), i ≤ nt ∧ n ≤ 5000 ∧ v4 = .int .i64 (i : Int) ∧ v3 = .int .i64 (n : Int) ∧ wr = W) (fun _ v4 _ => nt - (intOf v4).toNat)
  case atStart => exact ⟨0, 0, by omega, by omega, rfl, rfl, rfl⟩
  case round =>
    obtain ⟨i, n, hi, hn, rfl, rfl, rfl⟩ := hrel
    by_cases hlt : i < nt
    · obtain ⟨a, v, ea, hk, hab, hc, hr⟩ := H1.out.lies (i := i) (by have := HN.out; omega)
      obtain ⟨s, rfl⟩ := hk
      have hi1 : (0 : Int) ≤ (i : Int) := by omega
      have hi2 : (i : Int) < (nt : Int) := by omega
      subst ea
      have q1 := (HW.out.cell (p := a.add i) (by rw [block_of_add]; exact hab)).trans hc
      obtain ⟨z, hz⟩ : ∃ z, z = s.size := ⟨_, rfl⟩
      have hz2 : z ≤ 140737488355328 := by rw [hz]; exact Nat.le_trans (text_in hr) HT.out
      have hzc : (s.size : Int) = (z : Int) := by rw [hz]
      have HZ := Aside0.mk hz
      clear hab hc hr hz
      by_cases h5 : 5000 < n + z
      · have h6 : (5000 : Int) < (n : Int) + (z : Int) := by omega
        have hsum : IntKind.i64.wrap ((n : Int) + (s.size : Int)) = (n : Int) + (z : Int) := by rw [hzc]; exact IntWalk.i64_in _ (by omega)
        go_wp2
        go_ret
        exact ⟨.inr rfl, HW.out⟩
      · go_wp2
        go_roundw
        case rel => exact ⟨i + 1, n + z, by omega, by omega, by go_num, by go_num, by first | trivial | rfl⟩
        case measure => simp [intOf]; omega
    · obtain rfl : nt = i := by omega
      go_wp2
      go_ret
      exact ⟨.inl rfl, HW.out⟩
end Go.Proofs.YtgdoodeibcfcjaaGreat.Wire
