/- stevedorekeep.same of equal lists. Printed by csame.py. -/
import Derived.Test.YtgdoodeibcfcjaaGreatCSameA
set_option linter.unusedVariables false
set_option linter.unusedSimpArgs false
namespace Go.Proofs.YtgdoodeibcfcjaaGreat.Wire
open Go.RowKit Go.Proofs.YtgdoodeibcfcjaaGreat.NumsPure Go.Proofs.YtgdoodeibcfcjaaGreat.CPure Go.Proofs.YtgdoodeibcfcjaaGreat.Own
set_option maxHeartbeats 4000000 in
set_option maxRecDepth 100000 in
theorem eq_claim {x : List Value} (h : Fits ks_claim x) (w : World) : (Op.equalIn 10000 88 (.agg x.toArray) (.agg x.toArray)).run Tryz.prog w = .ok true w := by
  obtain ⟨_, _, rfl, ⟨s0, rfl⟩, _, _, rfl, ⟨z1, rfl⟩, _, _, rfl, ⟨s2, rfl⟩, _, _, rfl, ⟨s3, rfl⟩, _, _, rfl, ⟨s4, rfl⟩, _, _, rfl, ⟨z5, rfl⟩, _, _, rfl, ⟨z6, rfl⟩, _, _, rfl, ⟨z7, rfl⟩, rfl⟩ := h
  simp [go_sem]
set_option maxHeartbeats 4000000 in
set_option maxRecDepth 100000 in
theorem same_claim {A1 A2 : Option Addr} {c1 c2 : Nat} {R : List (List Value)} {w : World} (h1 : RowA w A1 8 ks_claim c1 R) (h2 : RowA w A2 8 ks_claim c2 R) :
    Calls Tryz.prog 48 #[.slice A1 R.length c1, .slice A2 R.length c2] w (SameYes w) := by
  obtain ⟨n, hn⟩ : ∃ n, n = R.length := ⟨_, rfl⟩
  rw [← hn]
  have hn1 : n ≤ 100000000 := by rw [hn]; exact h1.few
  have HN := Aside0.mk hn
  have H1 := Aside0.mk h1
  have H2 := Aside0.mk h2
  clear h1 h2 hn
  go_enter Tryz.func48, Tryz.ntmps48
  go_wp2_with (fail)
  go_loopw [5] (fun v5 wr => ∃ i m : Nat, i ≤ n ∧ v5 = .int .i64 i ∧ wr = w.drewN m) (fun v5 _ => n - (intOf v5).toNat)
  case atStart => exact ⟨0, 0, by omega, rfl, rfl⟩
  case round =>
    obtain ⟨i, m, hi, rfl, rfl⟩ := hrel
    by_cases hlt : i < n
    · obtain ⟨x, hx⟩ : ∃ x, R[i]? = some x := ⟨_, List.getElem?_eq_getElem (by have := HN.out; omega)⟩
      have hxf := H1.out.fits x (List.mem_of_getElem? hx)
      obtain ⟨a1, rfl, hb1, hc1⟩ := H1.out.at_ (by have := HN.out; omega)
      obtain ⟨a2, rfl, hb2, hc2⟩ := H2.out.at_ (by have := HN.out; omega)
      have HC1 : Aside0 (∀ (j : Nat) v, x[j]? = some v → w.cell? ((a1.add (i * 8)).add j) = some v) := ⟨fun j v hv => by rw [add_of_add]; exact hc1 i x hx j v hv⟩
      have HC2 : Aside0 (∀ (j : Nat) v, x[j]? = some v → w.cell? ((a2.add (i * 8)).add j) = some v) := ⟨fun j v hv => by rw [add_of_add]; exact hc2 i x hx j v hv⟩
      have HXL : Aside0 (x.length = 8) := ⟨fits_len hxf⟩
      have HXF := Aside0.mk hxf
      clear hx hxf hb1 hc1 hb2 hc2
      go_wp2_with (fail)
      refine wp_region_quiet_lit (by kernel_rfl) (by kernel_rfl) ?_
      quiet_step (fail)
      quiet_step (fail)
      quiet_step (fail)
      refine wpQuiet_load_at rfl 88 (.tmp 19) rfl (a1.add (i * 8)) rfl x _ (fun w' hw' j v hv => by obtain ⟨q, rfl⟩ := hw'; exact HC1.out j v hv) Tryz.underlying88 rfl (by rw [HXL.out]; kernel_rfl) ?_
      quiet_step (fail)
      quiet_step (fail)
      quiet_step (fail)
      refine wpQuiet_load_at rfl 88 (.tmp 23) rfl (a2.add (i * 8)) rfl x _ (fun w' hw' j v hv => by obtain ⟨q, rfl⟩ := hw'; exact HC2.out j v hv) Tryz.underlying88 rfl (by rw [HXL.out]; kernel_rfl) ?_
      refine wpQuiet_neq_same rfl 88 88 (.tmp 20) (.tmp 24) rfl x.toArray rfl rfl Tryz.eqGuardType88 (eq_claim HXF.out) ?_
      refine wpQuiet_nil ?_
      intro _ hw'
      obtain ⟨nq, hw''⟩ := hw'
      subst hw''
      go_wp2
      go_roundw
      case rel => exact ⟨i + 1, m + nq, by omega, by go_num, by simp [World.drewN_drewN]⟩
      case measure => simp [intOf]; omega
    · obtain rfl : i = n := by omega
      go_wp2
      go_ret
      exact ⟨rfl, m, rfl⟩
set_option maxHeartbeats 4000000 in
set_option maxRecDepth 100000 in
theorem eq_task {x : List Value} (h : Fits ks_task x) (w : World) : (Op.equalIn 10000 91 (.agg x.toArray) (.agg x.toArray)).run Tryz.prog w = .ok true w := by
  obtain ⟨_, _, rfl, ⟨z0, rfl⟩, _, _, rfl, ⟨z1, rfl⟩, _, _, rfl, ⟨s2, rfl⟩, _, _, rfl, ⟨z3, rfl⟩, _, _, rfl, ⟨s4, rfl⟩, _, _, rfl, ⟨s5, rfl⟩, _, _, rfl, ⟨s6, rfl⟩, _, _, rfl, ⟨z7, rfl⟩, _, _, rfl, ⟨s8, rfl⟩, _, _, rfl, ⟨z9, rfl⟩, _, _, rfl, ⟨s10, rfl⟩, rfl⟩ := h
  simp [go_sem]
set_option maxHeartbeats 4000000 in
set_option maxRecDepth 100000 in
theorem same_task {A1 A2 : Option Addr} {c1 c2 : Nat} {R : List (List Value)} {w : World} (h1 : RowA w A1 11 ks_task c1 R) (h2 : RowA w A2 11 ks_task c2 R) :
    Calls Tryz.prog 49 #[.slice A1 R.length c1, .slice A2 R.length c2] w (SameYes w) := by
  obtain ⟨n, hn⟩ : ∃ n, n = R.length := ⟨_, rfl⟩
  rw [← hn]
  have hn1 : n ≤ 100000000 := by rw [hn]; exact h1.few
  have HN := Aside0.mk hn
  have H1 := Aside0.mk h1
  have H2 := Aside0.mk h2
  clear h1 h2 hn
  go_enter Tryz.func49, Tryz.ntmps49
  go_wp2_with (fail)
  go_loopw [5] (fun v5 wr => ∃ i m : Nat, i ≤ n ∧ v5 = .int .i64 i ∧ wr = w.drewN m) (fun v5 _ => n - (intOf v5).toNat)
  case atStart => exact ⟨0, 0, by omega, rfl, rfl⟩
  case round =>
    obtain ⟨i, m, hi, rfl, rfl⟩ := hrel
    by_cases hlt : i < n
    · obtain ⟨x, hx⟩ : ∃ x, R[i]? = some x := ⟨_, List.getElem?_eq_getElem (by have := HN.out; omega)⟩
      have hxf := H1.out.fits x (List.mem_of_getElem? hx)
      obtain ⟨a1, rfl, hb1, hc1⟩ := H1.out.at_ (by have := HN.out; omega)
      obtain ⟨a2, rfl, hb2, hc2⟩ := H2.out.at_ (by have := HN.out; omega)
      have HC1 : Aside0 (∀ (j : Nat) v, x[j]? = some v → w.cell? ((a1.add (i * 11)).add j) = some v) := ⟨fun j v hv => by rw [add_of_add]; exact hc1 i x hx j v hv⟩
      have HC2 : Aside0 (∀ (j : Nat) v, x[j]? = some v → w.cell? ((a2.add (i * 11)).add j) = some v) := ⟨fun j v hv => by rw [add_of_add]; exact hc2 i x hx j v hv⟩
      have HXL : Aside0 (x.length = 11) := ⟨fits_len hxf⟩
      have HXF := Aside0.mk hxf
      clear hx hxf hb1 hc1 hb2 hc2
      go_wp2_with (fail)
      refine wp_region_quiet_lit (by kernel_rfl) (by kernel_rfl) ?_
      quiet_step (fail)
      quiet_step (fail)
      quiet_step (fail)
      refine wpQuiet_load_at rfl 91 (.tmp 19) rfl (a1.add (i * 11)) rfl x _ (fun w' hw' j v hv => by obtain ⟨q, rfl⟩ := hw'; exact HC1.out j v hv) Tryz.underlying91 rfl (by rw [HXL.out]; kernel_rfl) ?_
      quiet_step (fail)
      quiet_step (fail)
      quiet_step (fail)
      refine wpQuiet_load_at rfl 91 (.tmp 23) rfl (a2.add (i * 11)) rfl x _ (fun w' hw' j v hv => by obtain ⟨q, rfl⟩ := hw'; exact HC2.out j v hv) Tryz.underlying91 rfl (by rw [HXL.out]; kernel_rfl) ?_
      refine wpQuiet_neq_same rfl 91 91 (.tmp 20) (.tmp 24) rfl x.toArray rfl rfl Tryz.eqGuardType91 (eq_task HXF.out) ?_
      refine wpQuiet_nil ?_
      intro _ hw'
      obtain ⟨nq, hw''⟩ := hw'
      subst hw''
      go_wp2
      go_roundw
      case rel => exact ⟨i + 1, m + nq, by omega, by go_num, by simp [World.drewN_drewN]⟩
      case measure => simp [intOf]; omega
    · obtain rfl : i = n := by omega
      go_wp2
      go_ret
      exact ⟨rfl, m, rfl⟩
set_option maxHeartbeats 4000000 in
set_option maxRecDepth 100000 in
theorem eq_parcel {x : List Value} (h : Fits ks_parcel x) (w : World) : (Op.equalIn 10000 94 (.agg x.toArray) (.agg x.toArray)).run Tryz.prog w = .ok true w := by
  obtain ⟨_, _, rfl, ⟨s0, rfl⟩, _, _, rfl, ⟨s1, rfl⟩, rfl⟩ := h
  simp [go_sem]
set_option maxHeartbeats 4000000 in
set_option maxRecDepth 100000 in
theorem same_parcel {A1 A2 : Option Addr} {c1 c2 : Nat} {R : List (List Value)} {w : World} (h1 : RowA w A1 2 ks_parcel c1 R) (h2 : RowA w A2 2 ks_parcel c2 R) :
    Calls Tryz.prog 50 #[.slice A1 R.length c1, .slice A2 R.length c2] w (SameYes w) := by
  obtain ⟨n, hn⟩ : ∃ n, n = R.length := ⟨_, rfl⟩
  rw [← hn]
  have hn1 : n ≤ 100000000 := by rw [hn]; exact h1.few
  have HN := Aside0.mk hn
  have H1 := Aside0.mk h1
  have H2 := Aside0.mk h2
  clear h1 h2 hn
  go_enter Tryz.func50, Tryz.ntmps50
  go_wp2_with (fail)
  go_loopw [5] (fun v5 wr => ∃ i m : Nat, i ≤ n ∧ v5 = .int .i64 i ∧ wr = w.drewN m) (fun v5 _ => n - (intOf v5).toNat)
  case atStart => exact ⟨0, 0, by omega, rfl, rfl⟩
  case round =>
    obtain ⟨i, m, hi, rfl, rfl⟩ := hrel
    by_cases hlt : i < n
    · obtain ⟨x, hx⟩ : ∃ x, R[i]? = some x := ⟨_, List.getElem?_eq_getElem (by have := HN.out; omega)⟩
      have hxf := H1.out.fits x (List.mem_of_getElem? hx)
      obtain ⟨a1, rfl, hb1, hc1⟩ := H1.out.at_ (by have := HN.out; omega)
      obtain ⟨a2, rfl, hb2, hc2⟩ := H2.out.at_ (by have := HN.out; omega)
      have HC1 : Aside0 (∀ (j : Nat) v, x[j]? = some v → w.cell? ((a1.add (i * 2)).add j) = some v) := ⟨fun j v hv => by rw [add_of_add]; exact hc1 i x hx j v hv⟩
      have HC2 : Aside0 (∀ (j : Nat) v, x[j]? = some v → w.cell? ((a2.add (i * 2)).add j) = some v) := ⟨fun j v hv => by rw [add_of_add]; exact hc2 i x hx j v hv⟩
      have HXL : Aside0 (x.length = 2) := ⟨fits_len hxf⟩
      have HXF := Aside0.mk hxf
      clear hx hxf hb1 hc1 hb2 hc2
      go_wp2_with (fail)
      refine wp_region_quiet_lit (by kernel_rfl) (by kernel_rfl) ?_
      quiet_step (fail)
      quiet_step (fail)
      quiet_step (fail)
      refine wpQuiet_load_at rfl 94 (.tmp 19) rfl (a1.add (i * 2)) rfl x _ (fun w' hw' j v hv => by obtain ⟨q, rfl⟩ := hw'; exact HC1.out j v hv) Tryz.underlying94 rfl (by rw [HXL.out]; kernel_rfl) ?_
      quiet_step (fail)
      quiet_step (fail)
      quiet_step (fail)
      refine wpQuiet_load_at rfl 94 (.tmp 23) rfl (a2.add (i * 2)) rfl x _ (fun w' hw' j v hv => by obtain ⟨q, rfl⟩ := hw'; exact HC2.out j v hv) Tryz.underlying94 rfl (by rw [HXL.out]; kernel_rfl) ?_
      refine wpQuiet_neq_same rfl 94 94 (.tmp 20) (.tmp 24) rfl x.toArray rfl rfl Tryz.eqGuardType94 (eq_parcel HXF.out) ?_
      refine wpQuiet_nil ?_
      intro _ hw'
      obtain ⟨nq, hw''⟩ := hw'
      subst hw''
      go_wp2
      go_roundw
      case rel => exact ⟨i + 1, m + nq, by omega, by go_num, by simp [World.drewN_drewN]⟩
      case measure => simp [intOf]; omega
    · obtain rfl : i = n := by omega
      go_wp2
      go_ret
      exact ⟨rfl, m, rfl⟩
set_option maxHeartbeats 4000000 in
set_option maxRecDepth 100000 in
theorem eq_sent {x : List Value} (h : Fits ks_sent x) (w : World) : (Op.equalIn 10000 97 (.agg x.toArray) (.agg x.toArray)).run Tryz.prog w = .ok true w := by
  obtain ⟨_, _, rfl, ⟨s0, rfl⟩, _, _, rfl, ⟨s1, rfl⟩, _, _, rfl, ⟨s2, rfl⟩, _, _, rfl, ⟨z3, rfl⟩, _, _, rfl, ⟨z4, rfl⟩, rfl⟩ := h
  simp [go_sem]
set_option maxHeartbeats 4000000 in
set_option maxRecDepth 100000 in
theorem same_sent {A1 A2 : Option Addr} {c1 c2 : Nat} {R : List (List Value)} {w : World} (h1 : RowA w A1 5 ks_sent c1 R) (h2 : RowA w A2 5 ks_sent c2 R) :
    Calls Tryz.prog 51 #[.slice A1 R.length c1, .slice A2 R.length c2] w (SameYes w) := by
  obtain ⟨n, hn⟩ : ∃ n, n = R.length := ⟨_, rfl⟩
  rw [← hn]
  have hn1 : n ≤ 100000000 := by rw [hn]; exact h1.few
  have HN := Aside0.mk hn
  have H1 := Aside0.mk h1
  have H2 := Aside0.mk h2
  clear h1 h2 hn
  go_enter Tryz.func51, Tryz.ntmps51
  go_wp2_with (fail)
  go_loopw [5] (fun v5 wr => ∃ i m : Nat, i ≤ n ∧ v5 = .int .i64 i ∧ wr = w.drewN m) (fun v5 _ => n - (intOf v5).toNat)
  case atStart => exact ⟨0, 0, by omega, rfl, rfl⟩
  case round =>
    obtain ⟨i, m, hi, rfl, rfl⟩ := hrel
    by_cases hlt : i < n
    · obtain ⟨x, hx⟩ : ∃ x, R[i]? = some x := ⟨_, List.getElem?_eq_getElem (by have := HN.out; omega)⟩
      have hxf := H1.out.fits x (List.mem_of_getElem? hx)
      obtain ⟨a1, rfl, hb1, hc1⟩ := H1.out.at_ (by have := HN.out; omega)
      obtain ⟨a2, rfl, hb2, hc2⟩ := H2.out.at_ (by have := HN.out; omega)
      have HC1 : Aside0 (∀ (j : Nat) v, x[j]? = some v → w.cell? ((a1.add (i * 5)).add j) = some v) := ⟨fun j v hv => by rw [add_of_add]; exact hc1 i x hx j v hv⟩
      have HC2 : Aside0 (∀ (j : Nat) v, x[j]? = some v → w.cell? ((a2.add (i * 5)).add j) = some v) := ⟨fun j v hv => by rw [add_of_add]; exact hc2 i x hx j v hv⟩
      have HXL : Aside0 (x.length = 5) := ⟨fits_len hxf⟩
      have HXF := Aside0.mk hxf
      clear hx hxf hb1 hc1 hb2 hc2
      go_wp2_with (fail)
      refine wp_region_quiet_lit (by kernel_rfl) (by kernel_rfl) ?_
      quiet_step (fail)
      quiet_step (fail)
      quiet_step (fail)
      refine wpQuiet_load_at rfl 97 (.tmp 19) rfl (a1.add (i * 5)) rfl x _ (fun w' hw' j v hv => by obtain ⟨q, rfl⟩ := hw'; exact HC1.out j v hv) Tryz.underlying97 rfl (by rw [HXL.out]; kernel_rfl) ?_
      quiet_step (fail)
      quiet_step (fail)
      quiet_step (fail)
      refine wpQuiet_load_at rfl 97 (.tmp 23) rfl (a2.add (i * 5)) rfl x _ (fun w' hw' j v hv => by obtain ⟨q, rfl⟩ := hw'; exact HC2.out j v hv) Tryz.underlying97 rfl (by rw [HXL.out]; kernel_rfl) ?_
      refine wpQuiet_neq_same rfl 97 97 (.tmp 20) (.tmp 24) rfl x.toArray rfl rfl Tryz.eqGuardType97 (eq_sent HXF.out) ?_
      refine wpQuiet_nil ?_
      intro _ hw'
      obtain ⟨nq, hw''⟩ := hw'
      subst hw''
      go_wp2
      go_roundw
      case rel => exact ⟨i + 1, m + nq, by omega, by go_num, by simp [World.drewN_drewN]⟩
      case measure => simp [intOf]; omega
    · obtain rfl : i = n := by omega
      go_wp2
      go_ret
      exact ⟨rfl, m, rfl⟩
set_option maxHeartbeats 4000000 in
set_option maxRecDepth 100000 in
theorem eq_counted {x : List Value} (h : Fits ks_counted x) (w : World) : (Op.equalIn 10000 100 (.agg x.toArray) (.agg x.toArray)).run Tryz.prog w = .ok true w := by
  obtain ⟨_, _, rfl, ⟨s0, rfl⟩, _, _, rfl, ⟨s1, rfl⟩, _, _, rfl, ⟨s2, rfl⟩, _, _, rfl, ⟨z3, rfl⟩, _, _, rfl, ⟨z4, rfl⟩, rfl⟩ := h
  simp [go_sem]
set_option maxHeartbeats 4000000 in
set_option maxRecDepth 100000 in
theorem same_counted {A1 A2 : Option Addr} {c1 c2 : Nat} {R : List (List Value)} {w : World} (h1 : RowA w A1 5 ks_counted c1 R) (h2 : RowA w A2 5 ks_counted c2 R) :
    Calls Tryz.prog 52 #[.slice A1 R.length c1, .slice A2 R.length c2] w (SameYes w) := by
  obtain ⟨n, hn⟩ : ∃ n, n = R.length := ⟨_, rfl⟩
  rw [← hn]
  have hn1 : n ≤ 100000000 := by rw [hn]; exact h1.few
  have HN := Aside0.mk hn
  have H1 := Aside0.mk h1
  have H2 := Aside0.mk h2
  clear h1 h2 hn
  go_enter Tryz.func52, Tryz.ntmps52
  go_wp2_with (fail)
  go_loopw [5] (fun v5 wr => ∃ i m : Nat, i ≤ n ∧ v5 = .int .i64 i ∧ wr = w.drewN m) (fun v5 _ => n - (intOf v5).toNat)
  case atStart => exact ⟨0, 0, by omega, rfl, rfl⟩
  case round =>
    obtain ⟨i, m, hi, rfl, rfl⟩ := hrel
    by_cases hlt : i < n
    · obtain ⟨x, hx⟩ : ∃ x, R[i]? = some x := ⟨_, List.getElem?_eq_getElem (by have := HN.out; omega)⟩
      have hxf := H1.out.fits x (List.mem_of_getElem? hx)
      obtain ⟨a1, rfl, hb1, hc1⟩ := H1.out.at_ (by have := HN.out; omega)
      obtain ⟨a2, rfl, hb2, hc2⟩ := H2.out.at_ (by have := HN.out; omega)
      have HC1 : Aside0 (∀ (j : Nat) v, x[j]? = some v → w.cell? ((a1.add (i * 5)).add j) = some v) := ⟨fun j v hv => by rw [add_of_add]; exact hc1 i x hx j v hv⟩
      have HC2 : Aside0 (∀ (j : Nat) v, x[j]? = some v → w.cell? ((a2.add (i * 5)).add j) = some v) := ⟨fun j v hv => by rw [add_of_add]; exact hc2 i x hx j v hv⟩
      have HXL : Aside0 (x.length = 5) := ⟨fits_len hxf⟩
      have HXF := Aside0.mk hxf
      clear hx hxf hb1 hc1 hb2 hc2
      go_wp2_with (fail)
      refine wp_region_quiet_lit (by kernel_rfl) (by kernel_rfl) ?_
      quiet_step (fail)
      quiet_step (fail)
      quiet_step (fail)
      refine wpQuiet_load_at rfl 100 (.tmp 19) rfl (a1.add (i * 5)) rfl x _ (fun w' hw' j v hv => by obtain ⟨q, rfl⟩ := hw'; exact HC1.out j v hv) Tryz.underlying100 rfl (by rw [HXL.out]; kernel_rfl) ?_
      quiet_step (fail)
      quiet_step (fail)
      quiet_step (fail)
      refine wpQuiet_load_at rfl 100 (.tmp 23) rfl (a2.add (i * 5)) rfl x _ (fun w' hw' j v hv => by obtain ⟨q, rfl⟩ := hw'; exact HC2.out j v hv) Tryz.underlying100 rfl (by rw [HXL.out]; kernel_rfl) ?_
      refine wpQuiet_neq_same rfl 100 100 (.tmp 20) (.tmp 24) rfl x.toArray rfl rfl Tryz.eqGuardType100 (eq_counted HXF.out) ?_
      refine wpQuiet_nil ?_
      intro _ hw'
      obtain ⟨nq, hw''⟩ := hw'
      subst hw''
      go_wp2
      go_roundw
      case rel => exact ⟨i + 1, m + nq, by omega, by go_num, by simp [World.drewN_drewN]⟩
      case measure => simp [intOf]; omega
    · obtain rfl : i = n := by omega
      go_wp2
      go_ret
      exact ⟨rfl, m, rfl⟩
set_option maxHeartbeats 4000000 in
set_option maxRecDepth 100000 in
theorem eq_total {x : List Value} (h : Fits ks_total x) (w : World) : (Op.equalIn 10000 103 (.agg x.toArray) (.agg x.toArray)).run Tryz.prog w = .ok true w := by
  obtain ⟨_, _, rfl, ⟨s0, rfl⟩, _, _, rfl, ⟨s1, rfl⟩, _, _, rfl, ⟨z2, rfl⟩, _, _, rfl, ⟨z3, rfl⟩, _, _, rfl, ⟨z4, rfl⟩, _, _, rfl, ⟨z5, rfl⟩, rfl⟩ := h
  simp [go_sem]
set_option maxHeartbeats 4000000 in
set_option maxRecDepth 100000 in
theorem same_total {A1 A2 : Option Addr} {c1 c2 : Nat} {R : List (List Value)} {w : World} (h1 : RowA w A1 6 ks_total c1 R) (h2 : RowA w A2 6 ks_total c2 R) :
    Calls Tryz.prog 53 #[.slice A1 R.length c1, .slice A2 R.length c2] w (SameYes w) := by
  obtain ⟨n, hn⟩ : ∃ n, n = R.length := ⟨_, rfl⟩
  rw [← hn]
  have hn1 : n ≤ 100000000 := by rw [hn]; exact h1.few
  have HN := Aside0.mk hn
  have H1 := Aside0.mk h1
  have H2 := Aside0.mk h2
  clear h1 h2 hn
  go_enter Tryz.func53, Tryz.ntmps53
  go_wp2_with (fail)
  go_loopw [5] (fun v5 wr => ∃ i m : Nat, i ≤ n ∧ v5 = .int .i64 i ∧ wr = w.drewN m) (fun v5 _ => n - (intOf v5).toNat)
  case atStart => exact ⟨0, 0, by omega, rfl, rfl⟩
  case round =>
    obtain ⟨i, m, hi, rfl, rfl⟩ := hrel
    by_cases hlt : i < n
    · obtain ⟨x, hx⟩ : ∃ x, R[i]? = some x := ⟨_, List.getElem?_eq_getElem (by have := HN.out; omega)⟩
      have hxf := H1.out.fits x (List.mem_of_getElem? hx)
      obtain ⟨a1, rfl, hb1, hc1⟩ := H1.out.at_ (by have := HN.out; omega)
      obtain ⟨a2, rfl, hb2, hc2⟩ := H2.out.at_ (by have := HN.out; omega)
      have HC1 : Aside0 (∀ (j : Nat) v, x[j]? = some v → w.cell? ((a1.add (i * 6)).add j) = some v) := ⟨fun j v hv => by rw [add_of_add]; exact hc1 i x hx j v hv⟩
      have HC2 : Aside0 (∀ (j : Nat) v, x[j]? = some v → w.cell? ((a2.add (i * 6)).add j) = some v) := ⟨fun j v hv => by rw [add_of_add]; exact hc2 i x hx j v hv⟩
      have HXL : Aside0 (x.length = 6) := ⟨fits_len hxf⟩
      have HXF := Aside0.mk hxf
      clear hx hxf hb1 hc1 hb2 hc2
      go_wp2_with (fail)
      refine wp_region_quiet_lit (by kernel_rfl) (by kernel_rfl) ?_
      quiet_step (fail)
      quiet_step (fail)
      quiet_step (fail)
      refine wpQuiet_load_at rfl 103 (.tmp 19) rfl (a1.add (i * 6)) rfl x _ (fun w' hw' j v hv => by obtain ⟨q, rfl⟩ := hw'; exact HC1.out j v hv) Tryz.underlying103 rfl (by rw [HXL.out]; kernel_rfl) ?_
      quiet_step (fail)
      quiet_step (fail)
      quiet_step (fail)
      refine wpQuiet_load_at rfl 103 (.tmp 23) rfl (a2.add (i * 6)) rfl x _ (fun w' hw' j v hv => by obtain ⟨q, rfl⟩ := hw'; exact HC2.out j v hv) Tryz.underlying103 rfl (by rw [HXL.out]; kernel_rfl) ?_
      refine wpQuiet_neq_same rfl 103 103 (.tmp 20) (.tmp 24) rfl x.toArray rfl rfl Tryz.eqGuardType103 (eq_total HXF.out) ?_
      refine wpQuiet_nil ?_
      intro _ hw'
      obtain ⟨nq, hw''⟩ := hw'
      subst hw''
      go_wp2
      go_roundw
      case rel => exact ⟨i + 1, m + nq, by omega, by go_num, by simp [World.drewN_drewN]⟩
      case measure => simp [intOf]; omega
    · obtain rfl : i = n := by omega
      go_wp2
      go_ret
      exact ⟨rfl, m, rfl⟩
end Go.Proofs.YtgdoodeibcfcjaaGreat.Wire
