/- stevedorekeep.same of equal lists. Printed by csame.py. -/
import Derived.Test.YtgdoodeibcfcjaaGreatCSameA
set_option linter.unusedVariables false
set_option linter.unusedSimpArgs false
namespace Go.Proofs.YtgdoodeibcfcjaaGreat.Wire
open Go.RowKit Go.Proofs.YtgdoodeibcfcjaaGreat.NumsPure Go.Proofs.YtgdoodeibcfcjaaGreat.CPure Go.Proofs.YtgdoodeibcfcjaaGreat.Own
set_option maxHeartbeats 4000000 in
set_option maxRecDepth 100000 in
theorem eq_quant {x : List Value} (h : Fits ks_quant x) (w : World) : (Op.equalIn 10000 73 (.agg x.toArray) (.agg x.toArray)).run Tryz.prog w = .ok true w := by
  obtain ⟨_, _, rfl, ⟨s0, rfl⟩, _, _, rfl, ⟨s1, rfl⟩, _, _, rfl, ⟨s2, rfl⟩, _, _, rfl, ⟨z3, rfl⟩, _, _, rfl, ⟨z4, rfl⟩, _, _, rfl, ⟨z5, rfl⟩, rfl⟩ := h
  simp [go_sem]
set_option maxHeartbeats 4000000 in
set_option maxRecDepth 100000 in
theorem same_quant {A1 A2 : Option Addr} {c1 c2 : Nat} {R : List (List Value)} {w : World} (h1 : RowA w A1 6 ks_quant c1 R) (h2 : RowA w A2 6 ks_quant c2 R) :
    Calls Tryz.prog 44 #[.slice A1 R.length c1, .slice A2 R.length c2] w (SameYes w) := by
  obtain ⟨n, hn⟩ : ∃ n, n = R.length := ⟨_, rfl⟩
  rw [← hn]
  have hn1 : n ≤ 100000000 := by rw [hn]; exact h1.few
  have HN := Aside0.mk hn
  have H1 := Aside0.mk h1
  have H2 := Aside0.mk h2
  clear h1 h2 hn
  go_enter Tryz.func44, Tryz.ntmps44
  go_wp2_with (fail)
  go_loopw [5] (fun v5 wr => ∃ i m : Nat, i ≤ n ∧ v5 = .int .i64 i ∧ wr = w.drewN m) (fun v5 _ => n - (intOf v5).toNat)
  case atStart => exact ⟨0, 0, by omega, rfl, rfl⟩
  case round =>
    obtain ⟨i, m, hi, rfl, rfl⟩ := hrel
    by_cases hlt : i < n
    · obtain ⟨x, hx⟩ : ∃ x, R[i]? = some x := ⟨_, List.getElem?_eq_getElem (by have := HN.out; omega)⟩
      have hxf := H1.out.fits x (List.mem_of_getElem? hx)
      obtain ⟨a1, rfl, hb1, hc1⟩ := H1.out.at_ (by have := HN.out; omega)
      obtain ⟨a2, rfl, hb2, hc2⟩ := H2.out.at_ (by have := HN.out; omega)
      have HC1 : Aside0 (∀ (j : Nat) v, x[j]? = some v → w.cell? ((a1.add (i * 6)).add j) = some v) := ⟨fun j v hv => by rw [add_of_add]; exact hc1 i x hx j v hv⟩
      have HC2 : Aside0 (∀ (j : Nat) v, x[j]? = some v → w.cell? ((a2.add (i * 6)).add j) = some v) := ⟨fun j v hv => by rw [add_of_add]; exact hc2 i x hx j v hv⟩
      have HXL : Aside0 (x.length = 6) := ⟨fits_len hxf⟩
      have HXF := Aside0.mk hxf
      clear hx hxf hb1 hc1 hb2 hc2
      go_wp2_with (fail)
      refine wp_region_quiet_lit (by kernel_rfl) (by kernel_rfl) ?_
      quiet_step (fail)
      quiet_step (fail)
      quiet_step (fail)
      refine wpQuiet_load_at rfl 73 (.tmp 19) rfl (a1.add (i * 6)) rfl x _ (fun w' hw' j v hv => by obtain ⟨q, rfl⟩ := hw'; exact HC1.out j v hv) Tryz.underlying73 rfl (by rw [HXL.out]; kernel_rfl) ?_
      quiet_step (fail)
      quiet_step (fail)
      quiet_step (fail)
      refine wpQuiet_load_at rfl 73 (.tmp 23) rfl (a2.add (i * 6)) rfl x _ (fun w' hw' j v hv => by obtain ⟨q, rfl⟩ := hw'; exact HC2.out j v hv) Tryz.underlying73 rfl (by rw [HXL.out]; kernel_rfl) ?_
      refine wpQuiet_neq_same rfl 73 73 (.tmp 20) (.tmp 24) rfl x.toArray rfl rfl Tryz.eqGuardType73 (eq_quant HXF.out) ?_
      refine wpQuiet_nil ?_
      intro _ hw'
      obtain ⟨nq, hw''⟩ := hw'
      subst hw''
      go_wp2
      go_roundw
      case rel => exact ⟨i + 1, m + nq, by omega, by go_num, by simp [World.drewN_drewN]⟩
      case measure => simp [intOf]; omega
    · obtain rfl : i = n := by omega
      go_wp2
      go_ret
      exact ⟨rfl, m, rfl⟩
set_option maxHeartbeats 4000000 in
set_option maxRecDepth 100000 in
theorem eq_rule {x : List Value} (h : Fits ks_rule x) (w : World) : (Op.equalIn 10000 76 (.agg x.toArray) (.agg x.toArray)).run Tryz.prog w = .ok true w := by
  obtain ⟨_, _, rfl, ⟨s0, rfl⟩, _, _, rfl, ⟨s1, rfl⟩, _, _, rfl, ⟨z2, rfl⟩, rfl⟩ := h
  simp [go_sem]
set_option maxHeartbeats 4000000 in
set_option maxRecDepth 100000 in
theorem same_rule {A1 A2 : Option Addr} {c1 c2 : Nat} {R : List (List Value)} {w : World} (h1 : RowA w A1 3 ks_rule c1 R) (h2 : RowA w A2 3 ks_rule c2 R) :
    Calls Tryz.prog 45 #[.slice A1 R.length c1, .slice A2 R.length c2] w (SameYes w) := by
  obtain ⟨n, hn⟩ : ∃ n, n = R.length := ⟨_, rfl⟩
  rw [← hn]
  have hn1 : n ≤ 100000000 := by rw [hn]; exact h1.few
  have HN := Aside0.mk hn
  have H1 := Aside0.mk h1
  have H2 := Aside0.mk h2
  clear h1 h2 hn
  go_enter Tryz.func45, Tryz.ntmps45
  go_wp2_with (fail)
  go_loopw [5] (fun v5 wr => ∃ i m : Nat, i ≤ n ∧ v5 = .int .i64 i ∧ wr = w.drewN m) (fun v5 _ => n - (intOf v5).toNat)
  case atStart => exact ⟨0, 0, by omega, rfl, rfl⟩
  case round =>
    obtain ⟨i, m, hi, rfl, rfl⟩ := hrel
    by_cases hlt : i < n
    · obtain ⟨x, hx⟩ : ∃ x, R[i]? = some x := ⟨_, List.getElem?_eq_getElem (by have := HN.out; omega)⟩
      have hxf := H1.out.fits x (List.mem_of_getElem? hx)
      obtain ⟨a1, rfl, hb1, hc1⟩ := H1.out.at_ (by have := HN.out; omega)
      obtain ⟨a2, rfl, hb2, hc2⟩ := H2.out.at_ (by have := HN.out; omega)
      have HC1 : Aside0 (∀ (j : Nat) v, x[j]? = some v → w.cell? ((a1.add (i * 3)).add j) = some v) := ⟨fun j v hv => by rw [add_of_add]; exact hc1 i x hx j v hv⟩
      have HC2 : Aside0 (∀ (j : Nat) v, x[j]? = some v → w.cell? ((a2.add (i * 3)).add j) = some v) := ⟨fun j v hv => by rw [add_of_add]; exact hc2 i x hx j v hv⟩
      have HXL : Aside0 (x.length = 3) := ⟨fits_len hxf⟩
      have HXF := Aside0.mk hxf
      clear hx hxf hb1 hc1 hb2 hc2
      go_wp2_with (fail)
      refine wp_region_quiet_lit (by kernel_rfl) (by kernel_rfl) ?_
      quiet_step (fail)
      quiet_step (fail)
      quiet_step (fail)
      refine wpQuiet_load_at rfl 76 (.tmp 19) rfl (a1.add (i * 3)) rfl x _ (fun w' hw' j v hv => by obtain ⟨q, rfl⟩ := hw'; exact HC1.out j v hv) Tryz.underlying76 rfl (by rw [HXL.out]; kernel_rfl) ?_
      quiet_step (fail)
      quiet_step (fail)
      quiet_step (fail)
      refine wpQuiet_load_at rfl 76 (.tmp 23) rfl (a2.add (i * 3)) rfl x _ (fun w' hw' j v hv => by obtain ⟨q, rfl⟩ := hw'; exact HC2.out j v hv) Tryz.underlying76 rfl (by rw [HXL.out]; kernel_rfl) ?_
      refine wpQuiet_neq_same rfl 76 76 (.tmp 20) (.tmp 24) rfl x.toArray rfl rfl Tryz.eqGuardType76 (eq_rule HXF.out) ?_
      refine wpQuiet_nil ?_
      intro _ hw'
      obtain ⟨nq, hw''⟩ := hw'
      subst hw''
      go_wp2
      go_roundw
      case rel => exact ⟨i + 1, m + nq, by omega, by go_num, by simp [World.drewN_drewN]⟩
      case measure => simp [intOf]; omega
    · obtain rfl : i = n := by omega
      go_wp2
      go_ret
      exact ⟨rfl, m, rfl⟩
set_option maxHeartbeats 4000000 in
set_option maxRecDepth 100000 in
theorem eq_notice {x : List Value} (h : Fits ks_notice x) (w : World) : (Op.equalIn 10000 82 (.agg x.toArray) (.agg x.toArray)).run Tryz.prog w = .ok true w := by
  obtain ⟨_, h0, s0, rfl⟩ := fits_at (j := 0) h rfl
  obtain ⟨_, h1, s1, rfl⟩ := fits_at (j := 1) h rfl
  have hm := fits_mid 2 48 h
  rw [show (ks_notice.drop 2).take 48 = ks_line ++ ks_line ++ ks_line ++ ks_line ++ ks_line ++ ks_line ++ ks_line ++ ks_line from rfl] at hm
  obtain ⟨_, h50, b50, rfl⟩ := fits_at (j := 50) h rfl
  refine eqStruct (d := 9999) Tryz.underlying82 Tryz.stoodInHeld82 ?_
  refine eqF (by decide) (part_one (v := .string s0) (by simp [go_sem]) (by simpa using h0)) (by simp [go_sem]) ?_
  refine eqF (by decide) (part_one (v := .string s1) (by simp [go_sem]) (by simpa using h1)) (by simp [go_sem]) ?_
  refine eqF (by decide) (part_agg (n := 48) (by simp [go_sem]) (by simp [go_sem])) (eq_lines hm w) ?_
  refine eqF (by decide) (part_one (v := .bool b50) (by simp [go_sem]) (by simpa using h50)) (by simp [go_sem]) ?_
  rfl
set_option maxHeartbeats 4000000 in
set_option maxRecDepth 100000 in
theorem same_notice {A1 A2 : Option Addr} {c1 c2 : Nat} {R : List (List Value)} {w : World} (h1 : RowA w A1 51 ks_notice c1 R) (h2 : RowA w A2 51 ks_notice c2 R) :
    Calls Tryz.prog 46 #[.slice A1 R.length c1, .slice A2 R.length c2] w (SameYes w) := by
  obtain ⟨n, hn⟩ : ∃ n, n = R.length := ⟨_, rfl⟩
  rw [← hn]
  have hn1 : n ≤ 100000000 := by rw [hn]; exact h1.few
  have HN := Aside0.mk hn
  have H1 := Aside0.mk h1
  have H2 := Aside0.mk h2
  clear h1 h2 hn
  go_enter Tryz.func46, Tryz.ntmps46
  go_wp2_with (fail)
  go_loopw [5] (fun v5 wr => ∃ i m : Nat, i ≤ n ∧ v5 = .int .i64 i ∧ wr = w.drewN m) (fun v5 _ => n - (intOf v5).toNat)
  case atStart => exact ⟨0, 0, by omega, rfl, rfl⟩
  case round =>
    obtain ⟨i, m, hi, rfl, rfl⟩ := hrel
    by_cases hlt : i < n
    · obtain ⟨x, hx⟩ : ∃ x, R[i]? = some x := ⟨_, List.getElem?_eq_getElem (by have := HN.out; omega)⟩
      have hxf := H1.out.fits x (List.mem_of_getElem? hx)
      obtain ⟨a1, rfl, hb1, hc1⟩ := H1.out.at_ (by have := HN.out; omega)
      obtain ⟨a2, rfl, hb2, hc2⟩ := H2.out.at_ (by have := HN.out; omega)
      have HC1 : Aside0 (∀ (j : Nat) v, x[j]? = some v → w.cell? ((a1.add (i * 51)).add j) = some v) := ⟨fun j v hv => by rw [add_of_add]; exact hc1 i x hx j v hv⟩
      have HC2 : Aside0 (∀ (j : Nat) v, x[j]? = some v → w.cell? ((a2.add (i * 51)).add j) = some v) := ⟨fun j v hv => by rw [add_of_add]; exact hc2 i x hx j v hv⟩
      have HXL : Aside0 (x.length = 51) := ⟨fits_len hxf⟩
      have HXF := Aside0.mk hxf
      clear hx hxf hb1 hc1 hb2 hc2
      go_wp2_with (fail)
      refine wp_region_quiet_lit (by kernel_rfl) (by kernel_rfl) ?_
      quiet_step (fail)
      quiet_step (fail)
      quiet_step (fail)
      refine wpQuiet_load_at rfl 82 (.tmp 19) rfl (a1.add (i * 51)) rfl x _ (fun w' hw' j v hv => by obtain ⟨q, rfl⟩ := hw'; exact HC1.out j v hv) Tryz.underlying82 rfl (by rw [HXL.out]; kernel_rfl) ?_
      quiet_step (fail)
      quiet_step (fail)
      quiet_step (fail)
      refine wpQuiet_load_at rfl 82 (.tmp 23) rfl (a2.add (i * 51)) rfl x _ (fun w' hw' j v hv => by obtain ⟨q, rfl⟩ := hw'; exact HC2.out j v hv) Tryz.underlying82 rfl (by rw [HXL.out]; kernel_rfl) ?_
      refine wpQuiet_neq_same rfl 82 82 (.tmp 20) (.tmp 24) rfl x.toArray rfl rfl Tryz.eqGuardType82 (eq_notice HXF.out) ?_
      refine wpQuiet_nil ?_
      intro _ hw'
      obtain ⟨nq, hw''⟩ := hw'
      subst hw''
      go_wp2
      go_roundw
      case rel => exact ⟨i + 1, m + nq, by omega, by go_num, by simp [World.drewN_drewN]⟩
      case measure => simp [intOf]; omega
    · obtain rfl : i = n := by omega
      go_wp2
      go_ret
      exact ⟨rfl, m, rfl⟩
set_option maxHeartbeats 4000000 in
set_option maxRecDepth 100000 in
theorem eq_order {x : List Value} (h : Fits ks_order x) (w : World) : (Op.equalIn 10000 85 (.agg x.toArray) (.agg x.toArray)).run Tryz.prog w = .ok true w := by
  obtain ⟨_, h0, s0, rfl⟩ := fits_at (j := 0) h rfl
  obtain ⟨_, h1, s1, rfl⟩ := fits_at (j := 1) h rfl
  have hm := fits_mid 2 48 h
  rw [show (ks_order.drop 2).take 48 = ks_line ++ ks_line ++ ks_line ++ ks_line ++ ks_line ++ ks_line ++ ks_line ++ ks_line from rfl] at hm
  refine eqStruct (d := 9999) Tryz.underlying85 Tryz.stoodInHeld85 ?_
  refine eqF (by decide) (part_one (v := .string s0) (by simp [go_sem]) (by simpa using h0)) (by simp [go_sem]) ?_
  refine eqF (by decide) (part_one (v := .string s1) (by simp [go_sem]) (by simpa using h1)) (by simp [go_sem]) ?_
  refine eqF (by decide) (part_agg (n := 48) (by simp [go_sem]) (by simp [go_sem])) (eq_lines hm w) ?_
  rfl
set_option maxHeartbeats 4000000 in
set_option maxRecDepth 100000 in
theorem same_order {A1 A2 : Option Addr} {c1 c2 : Nat} {R : List (List Value)} {w : World} (h1 : RowA w A1 50 ks_order c1 R) (h2 : RowA w A2 50 ks_order c2 R) :
    Calls Tryz.prog 47 #[.slice A1 R.length c1, .slice A2 R.length c2] w (SameYes w) := by
  obtain ⟨n, hn⟩ : ∃ n, n = R.length := ⟨_, rfl⟩
  rw [← hn]
  have hn1 : n ≤ 100000000 := by rw [hn]; exact h1.few
  have HN := Aside0.mk hn
  have H1 := Aside0.mk h1
  have H2 := Aside0.mk h2
  clear h1 h2 hn
  go_enter Tryz.func47, Tryz.ntmps47
  go_wp2_with (fail)
  go_loopw [5] (fun v5 wr => ∃ i m : Nat, i ≤ n ∧ v5 = .int .i64 i ∧ wr = w.drewN m) (fun v5 _ => n - (intOf v5).toNat)
  case atStart => exact ⟨0, 0, by omega, rfl, rfl⟩
  case round =>
    obtain ⟨i, m, hi, rfl, rfl⟩ := hrel
    by_cases hlt : i < n
    · obtain ⟨x, hx⟩ : ∃ x, R[i]? = some x := ⟨_, List.getElem?_eq_getElem (by have := HN.out; omega)⟩
      have hxf := H1.out.fits x (List.mem_of_getElem? hx)
      obtain ⟨a1, rfl, hb1, hc1⟩ := H1.out.at_ (by have := HN.out; omega)
      obtain ⟨a2, rfl, hb2, hc2⟩ := H2.out.at_ (by have := HN.out; omega)
      have HC1 : Aside0 (∀ (j : Nat) v, x[j]? = some v → w.cell? ((a1.add (i * 50)).add j) = some v) := ⟨fun j v hv => by rw [add_of_add]; exact hc1 i x hx j v hv⟩
      have HC2 : Aside0 (∀ (j : Nat) v, x[j]? = some v → w.cell? ((a2.add (i * 50)).add j) = some v) := ⟨fun j v hv => by rw [add_of_add]; exact hc2 i x hx j v hv⟩
      have HXL : Aside0 (x.length = 50) := ⟨fits_len hxf⟩
      have HXF := Aside0.mk hxf
      clear hx hxf hb1 hc1 hb2 hc2
      go_wp2_with (fail)
      refine wp_region_quiet_lit (by kernel_rfl) (by kernel_rfl) ?_
      quiet_step (fail)
      quiet_step (fail)
      quiet_step (fail)
      refine wpQuiet_load_at rfl 85 (.tmp 19) rfl (a1.add (i * 50)) rfl x _ (fun w' hw' j v hv => by obtain ⟨q, rfl⟩ := hw'; exact HC1.out j v hv) Tryz.underlying85 rfl (by rw [HXL.out]; kernel_rfl) ?_
      quiet_step (fail)
      quiet_step (fail)
      quiet_step (fail)
      refine wpQuiet_load_at rfl 85 (.tmp 23) rfl (a2.add (i * 50)) rfl x _ (fun w' hw' j v hv => by obtain ⟨q, rfl⟩ := hw'; exact HC2.out j v hv) Tryz.underlying85 rfl (by rw [HXL.out]; kernel_rfl) ?_
      refine wpQuiet_neq_same rfl 85 85 (.tmp 20) (.tmp 24) rfl x.toArray rfl rfl Tryz.eqGuardType85 (eq_order HXF.out) ?_
      refine wpQuiet_nil ?_
      intro _ hw'
      obtain ⟨nq, hw''⟩ := hw'
      subst hw''
      go_wp2
      go_roundw
      case rel => exact ⟨i + 1, m + nq, by omega, by go_num, by simp [World.drewN_drewN]⟩
      case measure => simp [intOf]; omega
    · obtain rfl : i = n := by omega
      go_wp2
      go_ret
      exact ⟨rfl, m, rfl⟩
end Go.Proofs.YtgdoodeibcfcjaaGreat.Wire
