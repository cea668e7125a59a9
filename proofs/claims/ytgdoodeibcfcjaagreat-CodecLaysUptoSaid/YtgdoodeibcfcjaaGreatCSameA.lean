/- stevedorekeep.same of equal lists. Printed by csame.py. -/
import Derived.Test.YtgdoodeibcfcjaaGreatCMain
import Derived.ChangeKeysEq
import Derived.Laws.StructEq
set_option linter.unusedVariables false
set_option linter.unusedSimpArgs false
namespace Go.Proofs.YtgdoodeibcfcjaaGreat.Wire
open Go.RowKit Go.Proofs.YtgdoodeibcfcjaaGreat.NumsPure Go.Proofs.YtgdoodeibcfcjaaGreat.CPure Go.Proofs.YtgdoodeibcfcjaaGreat.Own
section
variable {P : Program} {ops : Array Oper} {C : World → Prop} {Q : Act → Prop} {a : Act} {o : Oper} {rest : List Oper}
theorem wpQuiet_value (hg : o.guard = none) (v : Value) (hv : ∀ w, C w → (execOp a.eval o).run P w = .ok (.value v) w) (h : wpQuiet P ops C Q rest (a.put o.dst v)) : wpQuiet P ops C Q (o :: rest) a :=
  wpQuiet_step fun K hK => by
    rw [if_pos (by simp [Region.wanted, hg])]
    exact ⟨v, fun w hw => by unfold Oper.quietAt; rw [hv w hw]; exact ⟨rfl, rfl⟩, hK _ h⟩
theorem wpQuiet_load_at (hg : o.guard = none) (ty : TypeId) (x : Operand) (ho : o.op = .load ty x) (ad : Addr) (hx : a.eval x = .pointer (some ad)) (cs : List Value) (d : TypeDesc)
    (hc : ∀ w, C w → ∀ j v, cs[j]? = some v → w.cell? (ad.add j) = some v) (hu : P.underlying ty = some d) (hd : d.isRow = true) (hi : (P.info? ty).map (·.size) = some cs.length)
    (h : wpQuiet P ops C Q rest (a.put o.dst (.agg cs.toArray))) : wpQuiet P ops C Q (o :: rest) a :=
  wpQuiet_value hg _ (fun w hw => by
    unfold execOp
    simp only [ho, hx, Instr.loadAt, Instr.sureAddr, Sem.run_bind, Sem.run_pure, Result.andThen_ok, run_loadVar_at w ad ty cs d (hc w hw) hu hd hi]) h
theorem wpQuiet_neq_same (hg : o.guard = none) (ty rt : TypeId) (x y : Operand) (ho : o.op = .binOp .neq ty x y rt) (xs : Array Value) (hx : a.eval x = .agg xs) (hy : a.eval y = .agg xs)
    (hm : P.eqGuardType P.depth ty = false) (he : ∀ w, (Op.equalIn 10000 ty (.agg xs) (.agg xs)).run P w = .ok true w)
    (h : wpQuiet P ops C Q rest (a.put o.dst (.bool false))) : wpQuiet P ops C Q (o :: rest) a :=
  wpQuiet_value hg _ (fun w _ => by
    unfold execOp
    simp [ho, hx, hy, run_eqGuard_agg w .neq ty x y xs xs hm, run_neq_struct, he]) h
end
theorem fits_at : ∀ {ks : List K} {x : List Value} {j : Nat} {k : K}, Fits ks x → ks[j]? = some k → ∃ v, x[j]? = some v ∧ IsK k v
  | [], x, j, k, h, hk => by simp at hk
  | k' :: ks, x, 0, k, h, hk => by
    obtain ⟨v, r, rfl, hv, _⟩ := h
    obtain rfl : k' = k := by simpa using hk
    exact ⟨v, rfl, hv⟩
  | k' :: ks, x, j + 1, k, h, hk => by
    obtain ⟨v, r, rfl, _, hr⟩ := h
    obtain ⟨u, hu, hi⟩ := fits_at (ks := ks) (x := r) (j := j) (k := k) hr (by simpa using hk)
    exact ⟨u, by simpa using hu, hi⟩
theorem fits_drop : ∀ {ks : List K} {x : List Value} (o : Nat), Fits ks x → Fits (ks.drop o) (x.drop o)
  | ks, x, 0, h => h
  | [], x, o + 1, h => by rw [show x = [] from h]; rfl
  | k :: ks, x, o + 1, h => by
    obtain ⟨v, r, rfl, _, hr⟩ := h
    exact fits_drop o hr
theorem fits_take : ∀ {ks : List K} {x : List Value} (n : Nat), Fits ks x → Fits (ks.take n) (x.take n)
  | ks, x, 0, h => by simp [Fits]
  | [], x, n + 1, h => by rw [show x = [] from h]; rfl
  | k :: ks, x, n + 1, h => by
    obtain ⟨v, r, rfl, hv, hr⟩ := h
    exact ⟨v, r.take n, rfl, hv, fits_take n hr⟩
theorem fits_mid {ks : List K} {x : List Value} (o n : Nat) (h : Fits ks x) : Fits ((ks.drop o).take n) (x.toArray.extract o (o + n)).toList := by
  have e : (x.toArray.extract o (o + n)).toList = (x.drop o).take n := by simp [List.extract_eq_take_drop]
  rw [e]
  exact fits_take n (fits_drop o h)
section
variable {P : Program} {w : World} {xs : Array Value}
theorem part_one {t : TypeId} {o : Nat} {v : Value} (ha : (isAgg t).run P w = .ok false w) (h : xs[o]? = some v) : (part t xs o).run P w = .ok v w := by
  simp [part, Sem.run_bind, ha, h]
theorem part_agg {t : TypeId} {o n : Nat} (ha : (isAgg t).run P w = .ok true w) (hs : (sizeOf t).run P w = .ok n w) : (part t xs o).run P w = .ok (.agg (xs.extract o (o + n))) w := by
  simp [part, Sem.run_bind, ha, hs]
theorem eqF {d : Nat} {f : Field} {fs : List Field} {v : Value} (hn : f.name ≠ "_") (hp : (part f.type xs f.offset).run P w = .ok v w) (he : (Op.equalIn d f.type v v).run P w = .ok true w) (h : (Op.eqFields d xs xs fs).run P w = .ok true w) : (Op.eqFields d xs xs (f :: fs)).run P w = .ok true w := by
  simp [Op.eqFields, hn, Sem.run_bind, hp, he, h]
theorem eqI {d e c i : Nat} {is : List Nat} {v : Value} (hp : (part e xs (i * c)).run P w = .ok v w) (he : (Op.equalIn d e v v).run P w = .ok true w) (h : (Op.eqItems d e c xs xs is).run P w = .ok true w) : (Op.eqItems d e c xs xs (i :: is)).run P w = .ok true w := by
  simp [Op.eqItems, Sem.run_bind, hp, he, h]
end
theorem eqStruct {P : Program} {w : World} {xs : Array Value} {t : TypeId} {fs : Array Field} {d : Nat} (hu : P.underlying t = some (.struct fs)) (hp : P.stoodInHeld t = false) (h : (Op.eqFields d xs xs fs.toList).run P w = .ok true w) : (Op.equalIn (d + 1) t (.agg xs) (.agg xs)).run P w = .ok true w := by
  have hf : P.fieldsOf t = fs := by unfold Program.fieldsOf; rw [hu]
  rw [run_equalIn_struct w d t _ _ (by rw [hf]; exact hu) hp, hf]
  exact h
def ks_line : List K := [.t, .n, .n, .n, .n, .n]
theorem eq_line {xs : Array Value} (h : Fits ks_line xs.toList) (w : World) : (Op.equalIn 9998 79 (.agg xs) (.agg xs)).run Tryz.prog w = .ok true w := by
  obtain ⟨xs⟩ := xs
  obtain ⟨_, _, e, ⟨s0, rfl⟩, _, _, rfl, ⟨z1, rfl⟩, _, _, rfl, ⟨z2, rfl⟩, _, _, rfl, ⟨z3, rfl⟩, _, _, rfl, ⟨z4, rfl⟩, _, _, rfl, ⟨z5, rfl⟩, rfl⟩ := h
  obtain rfl : xs = _ := e
  simp [go_sem]
set_option maxRecDepth 100000 in
theorem eq_lines {xs : Array Value} (h : Fits (ks_line ++ ks_line ++ ks_line ++ ks_line ++ ks_line ++ ks_line ++ ks_line ++ ks_line) xs.toList) (w : World) : (Op.equalIn 9999 80 (.agg xs) (.agg xs)).run Tryz.prog w = .ok true w := by
  obtain ⟨i0, hi⟩ : ∃ i, Tryz.prog.info? 79 = some i := Option.isSome_iff_exists.1 (by kernel_rfl)
  have hc : Tryz.prog.cellsOf 79 = 6 := by kernel_rfl
  have := run_equalIn_array (P := Tryz.prog) w 9998 xs xs Tryz.underlying80 hi
  rw [hc] at this
  rw [this]
  have key : ∀ i, i < 8 → ∃ v, (part 79 xs (i * 6)).run Tryz.prog w = .ok v w ∧ (Op.equalIn 9998 79 v v).run Tryz.prog w = .ok true w := fun i hi => by
    refine ⟨_, part_agg (n := 6) (by simp [go_sem]) (by simp [go_sem]), eq_line ?_ w⟩
    have hm := fits_mid (i * 6) 6 h
    have e : xs.toList.toArray = xs := by simp
    rw [e] at hm
    have : ((ks_line ++ ks_line ++ ks_line ++ ks_line ++ ks_line ++ ks_line ++ ks_line ++ ks_line).drop (i * 6)).take 6 = ks_line := by
      rcases (show i = 0 ∨ i = 1 ∨ i = 2 ∨ i = 3 ∨ i = 4 ∨ i = 5 ∨ i = 6 ∨ i = 7 from by omega) with rfl | rfl | rfl | rfl | rfl | rfl | rfl | rfl <;> rfl
    rw [this] at hm
    exact hm
  have all : ∀ is : List Nat, (∀ i ∈ is, i < 8) → (Op.eqItems 9998 79 6 xs xs is).run Tryz.prog w = .ok true w := by
    intro is
    induction is with
    | nil => intro _; rfl
    | cons i is ih =>
      intro hi
      obtain ⟨v, h1, h2⟩ := key i (hi i (by simp))
      exact eqI h1 h2 (ih fun j hj => hi j (by simp [hj]))
  exact all _ fun i hi => by simpa using hi
/-- It says yes, and has only drawn. -/
def SameYes (w : World) (e : Ending) (w' : World) : Prop := e = .returned (.bool true) ∧ ∃ m, w' = w.drewN m
set_option maxHeartbeats 4000000 in
set_option maxRecDepth 100000 in
theorem eq_item {x : List Value} (h : Fits ks_item x) (w : World) : (Op.equalIn 10000 59 (.agg x.toArray) (.agg x.toArray)).run Tryz.prog w = .ok true w := by
  obtain ⟨_, _, rfl, ⟨s0, rfl⟩, _, _, rfl, ⟨s1, rfl⟩, _, _, rfl, ⟨z2, rfl⟩, _, _, rfl, ⟨s3, rfl⟩, _, _, rfl, ⟨z4, rfl⟩, _, _, rfl, ⟨s5, rfl⟩, _, _, rfl, ⟨z6, rfl⟩, _, _, rfl, ⟨s7, rfl⟩, _, _, rfl, ⟨z8, rfl⟩, _, _, rfl, ⟨z9, rfl⟩, _, _, rfl, ⟨z10, rfl⟩, _, _, rfl, ⟨b11, rfl⟩, _, _, rfl, ⟨b12, rfl⟩, _, _, rfl, ⟨b13, rfl⟩, rfl⟩ := h
  obtain ⟨i0, hi⟩ : ∃ i, Tryz.prog.info? 56 = some i := Option.isSome_iff_exists.1 (by kernel_rfl)
  have hc : Tryz.prog.cellsOf 56 = 2 := by kernel_rfl
  have ha : ∀ (d : Nat) (xs ys : Array Value) (w : World), (Op.equalIn (d + 1) 57 (.agg xs) (.agg ys)).run Tryz.prog w = (Op.eqItems d 56 2 xs ys (List.range 4)).run Tryz.prog w := fun d xs ys w => by
    have := run_equalIn_array (P := Tryz.prog) w d xs ys Tryz.underlying57 hi
    rw [hc] at this; exact this
  simp [go_sem, ha, Op.eqItems, List.range, List.range.loop]
set_option maxHeartbeats 4000000 in
set_option maxRecDepth 100000 in
theorem same_item {A1 A2 : Option Addr} {c1 c2 : Nat} {R : List (List Value)} {w : World} (h1 : RowA w A1 14 ks_item c1 R) (h2 : RowA w A2 14 ks_item c2 R) :
    Calls Tryz.prog 40 #[.slice A1 R.length c1, .slice A2 R.length c2] w (SameYes w) := by
  obtain ⟨n, hn⟩ : ∃ n, n = R.length := ⟨_, rfl⟩
  rw [← hn]
  have hn1 : n ≤ 100000000 := by rw [hn]; exact h1.few
  have HN := Aside0.mk hn
  have H1 := Aside0.mk h1
  have H2 := Aside0.mk h2
  clear h1 h2 hn
  go_enter Tryz.func40, Tryz.ntmps40
  go_wp2_with (fail)
  go_loopw [5] (fun v5 wr => ∃ i m : Nat, i ≤ n ∧ v5 = .int .i64 i ∧ wr = w.drewN m) (fun v5 _ => n - (intOf v5).toNat)
  case atStart => exact ⟨0, 0, by omega, rfl, rfl⟩
  case round =>
    obtain ⟨i, m, hi, rfl, rfl⟩ := hrel
    by_cases hlt : i < n
    · obtain ⟨x, hx⟩ : ∃ x, R[i]? = some x := ⟨_, List.getElem?_eq_getElem (by have := HN.out; omega)⟩
      have hxf := H1.out.fits x (List.mem_of_getElem? hx)
      obtain ⟨a1, rfl, hb1, hc1⟩ := H1.out.at_ (by have := HN.out; omega)
      obtain ⟨a2, rfl, hb2, hc2⟩ := H2.out.at_ (by have := HN.out; omega)
      have HC1 : Aside0 (∀ (j : Nat) v, x[j]? = some v → w.cell? ((a1.add (i * 14)).add j) = some v) := ⟨fun j v hv => by rw [add_of_add]; exact hc1 i x hx j v hv⟩
      have HC2 : Aside0 (∀ (j : Nat) v, x[j]? = some v → w.cell? ((a2.add (i * 14)).add j) = some v) := ⟨fun j v hv => by rw [add_of_add]; exact hc2 i x hx j v hv⟩
      have HXL : Aside0 (x.length = 14) := ⟨fits_len hxf⟩
      have HXF := Aside0.mk hxf
      clear hx hxf hb1 hc1 hb2 hc2
      go_wp2_with (fail)
      refine wp_region_quiet_lit (by kernel_rfl) (by kernel_rfl) ?_
      quiet_step (fail)
      quiet_step (fail)
      quiet_step (fail)
      refine wpQuiet_load_at rfl 59 (.tmp 19) rfl (a1.add (i * 14)) rfl x _ (fun w' hw' j v hv => by obtain ⟨q, rfl⟩ := hw'; exact HC1.out j v hv) Tryz.underlying59 rfl (by rw [HXL.out]; kernel_rfl) ?_
      quiet_step (fail)
      quiet_step (fail)
      quiet_step (fail)
      refine wpQuiet_load_at rfl 59 (.tmp 23) rfl (a2.add (i * 14)) rfl x _ (fun w' hw' j v hv => by obtain ⟨q, rfl⟩ := hw'; exact HC2.out j v hv) Tryz.underlying59 rfl (by rw [HXL.out]; kernel_rfl) ?_
      refine wpQuiet_neq_same rfl 59 59 (.tmp 20) (.tmp 24) rfl x.toArray rfl rfl Tryz.eqGuardType59 (eq_item HXF.out) ?_
      refine wpQuiet_nil ?_
      intro _ hw'
      obtain ⟨nq, hw''⟩ := hw'
      subst hw''
      go_wp2
      go_roundw
      case rel => exact ⟨i + 1, m + nq, by omega, by go_num, by simp [World.drewN_drewN]⟩
      case measure => simp [intOf]; omega
    · obtain rfl : i = n := by omega
      go_wp2
      go_ret
      exact ⟨rfl, m, rfl⟩
set_option maxHeartbeats 4000000 in
set_option maxRecDepth 100000 in
theorem eq_lot {x : List Value} (h : Fits ks_lot x) (w : World) : (Op.equalIn 10000 62 (.agg x.toArray) (.agg x.toArray)).run Tryz.prog w = .ok true w := by
  obtain ⟨_, _, rfl, ⟨s0, rfl⟩, _, _, rfl, ⟨s1, rfl⟩, _, _, rfl, ⟨z2, rfl⟩, rfl⟩ := h
  simp [go_sem]
set_option maxHeartbeats 4000000 in
set_option maxRecDepth 100000 in
theorem same_lot {A1 A2 : Option Addr} {c1 c2 : Nat} {R : List (List Value)} {w : World} (h1 : RowA w A1 3 ks_lot c1 R) (h2 : RowA w A2 3 ks_lot c2 R) :
    Calls Tryz.prog 41 #[.slice A1 R.length c1, .slice A2 R.length c2] w (SameYes w) := by
  obtain ⟨n, hn⟩ : ∃ n, n = R.length := ⟨_, rfl⟩
  rw [← hn]
  have hn1 : n ≤ 100000000 := by rw [hn]; exact h1.few
  have HN := Aside0.mk hn
  have H1 := Aside0.mk h1
  have H2 := Aside0.mk h2
  clear h1 h2 hn
  go_enter Tryz.func41, Tryz.ntmps41
  go_wp2_with (fail)
  go_loopw [5] (fun v5 wr => ∃ i m : Nat, i ≤ n ∧ v5 = .int .i64 i ∧ wr = w.drewN m) (fun v5 _ => n - (intOf v5).toNat)
  case atStart => exact ⟨0, 0, by omega, rfl, rfl⟩
  case round =>
    obtain ⟨i, m, hi, rfl, rfl⟩ := hrel
    by_cases hlt : i < n
    · obtain ⟨x, hx⟩ : ∃ x, R[i]? = some x := ⟨_, List.getElem?_eq_getElem (by have := HN.out; omega)⟩
      have hxf := H1.out.fits x (List.mem_of_getElem? hx)
      obtain ⟨a1, rfl, hb1, hc1⟩ := H1.out.at_ (by have := HN.out; omega)
      obtain ⟨a2, rfl, hb2, hc2⟩ := H2.out.at_ (by have := HN.out; omega)
      have HC1 : Aside0 (∀ (j : Nat) v, x[j]? = some v → w.cell? ((a1.add (i * 3)).add j) = some v) := ⟨fun j v hv => by rw [add_of_add]; exact hc1 i x hx j v hv⟩
      have HC2 : Aside0 (∀ (j : Nat) v, x[j]? = some v → w.cell? ((a2.add (i * 3)).add j) = some v) := ⟨fun j v hv => by rw [add_of_add]; exact hc2 i x hx j v hv⟩
      have HXL : Aside0 (x.length = 3) := ⟨fits_len hxf⟩
      have HXF := Aside0.mk hxf
      clear hx hxf hb1 hc1 hb2 hc2
      go_wp2_with (fail)
      refine wp_region_quiet_lit (by kernel_rfl) (by kernel_rfl) ?_
      quiet_step (fail)
      quiet_step (fail)
      quiet_step (fail)
      refine wpQuiet_load_at rfl 62 (.tmp 19) rfl (a1.add (i * 3)) rfl x _ (fun w' hw' j v hv => by obtain ⟨q, rfl⟩ := hw'; exact HC1.out j v hv) Tryz.underlying62 rfl (by rw [HXL.out]; kernel_rfl) ?_
      quiet_step (fail)
      quiet_step (fail)
      quiet_step (fail)
      refine wpQuiet_load_at rfl 62 (.tmp 23) rfl (a2.add (i * 3)) rfl x _ (fun w' hw' j v hv => by obtain ⟨q, rfl⟩ := hw'; exact HC2.out j v hv) Tryz.underlying62 rfl (by rw [HXL.out]; kernel_rfl) ?_
      refine wpQuiet_neq_same rfl 62 62 (.tmp 20) (.tmp 24) rfl x.toArray rfl rfl Tryz.eqGuardType62 (eq_lot HXF.out) ?_
      refine wpQuiet_nil ?_
      intro _ hw'
      obtain ⟨nq, hw''⟩ := hw'
      subst hw''
      go_wp2
      go_roundw
      case rel => exact ⟨i + 1, m + nq, by omega, by go_num, by simp [World.drewN_drewN]⟩
      case measure => simp [intOf]; omega
    · obtain rfl : i = n := by omega
      go_wp2
      go_ret
      exact ⟨rfl, m, rfl⟩
set_option maxHeartbeats 4000000 in
set_option maxRecDepth 100000 in
theorem eq_zone {x : List Value} (h : Fits ks_zone x) (w : World) : (Op.equalIn 10000 65 (.agg x.toArray) (.agg x.toArray)).run Tryz.prog w = .ok true w := by
  obtain ⟨_, _, rfl, ⟨s0, rfl⟩, _, _, rfl, ⟨s1, rfl⟩, rfl⟩ := h
  simp [go_sem]
set_option maxHeartbeats 4000000 in
set_option maxRecDepth 100000 in
theorem same_zone {A1 A2 : Option Addr} {c1 c2 : Nat} {R : List (List Value)} {w : World} (h1 : RowA w A1 2 ks_zone c1 R) (h2 : RowA w A2 2 ks_zone c2 R) :
    Calls Tryz.prog 42 #[.slice A1 R.length c1, .slice A2 R.length c2] w (SameYes w) := by
  obtain ⟨n, hn⟩ : ∃ n, n = R.length := ⟨_, rfl⟩
  rw [← hn]
  have hn1 : n ≤ 100000000 := by rw [hn]; exact h1.few
  have HN := Aside0.mk hn
  have H1 := Aside0.mk h1
  have H2 := Aside0.mk h2
  clear h1 h2 hn
  go_enter Tryz.func42, Tryz.ntmps42
  go_wp2_with (fail)
  go_loopw [5] (fun v5 wr => ∃ i m : Nat, i ≤ n ∧ v5 = .int .i64 i ∧ wr = w.drewN m) (fun v5 _ => n - (intOf v5).toNat)
  case atStart => exact ⟨0, 0, by omega, rfl, rfl⟩
  case round =>
    obtain ⟨i, m, hi, rfl, rfl⟩ := hrel
    by_cases hlt : i < n
    · obtain ⟨x, hx⟩ : ∃ x, R[i]? = some x := ⟨_, List.getElem?_eq_getElem (by have := HN.out; omega)⟩
      have hxf := H1.out.fits x (List.mem_of_getElem? hx)
      obtain ⟨a1, rfl, hb1, hc1⟩ := H1.out.at_ (by have := HN.out; omega)
      obtain ⟨a2, rfl, hb2, hc2⟩ := H2.out.at_ (by have := HN.out; omega)
      have HC1 : Aside0 (∀ (j : Nat) v, x[j]? = some v → w.cell? ((a1.add (i * 2)).add j) = some v) := ⟨fun j v hv => by rw [add_of_add]; exact hc1 i x hx j v hv⟩
      have HC2 : Aside0 (∀ (j : Nat) v, x[j]? = some v → w.cell? ((a2.add (i * 2)).add j) = some v) := ⟨fun j v hv => by rw [add_of_add]; exact hc2 i x hx j v hv⟩
      have HXL : Aside0 (x.length = 2) := ⟨fits_len hxf⟩
      have HXF := Aside0.mk hxf
      clear hx hxf hb1 hc1 hb2 hc2
      go_wp2_with (fail)
      refine wp_region_quiet_lit (by kernel_rfl) (by kernel_rfl) ?_
      quiet_step (fail)
      quiet_step (fail)
      quiet_step (fail)
      refine wpQuiet_load_at rfl 65 (.tmp 19) rfl (a1.add (i * 2)) rfl x _ (fun w' hw' j v hv => by obtain ⟨q, rfl⟩ := hw'; exact HC1.out j v hv) Tryz.underlying65 rfl (by rw [HXL.out]; kernel_rfl) ?_
      quiet_step (fail)
      quiet_step (fail)
      quiet_step (fail)
      refine wpQuiet_load_at rfl 65 (.tmp 23) rfl (a2.add (i * 2)) rfl x _ (fun w' hw' j v hv => by obtain ⟨q, rfl⟩ := hw'; exact HC2.out j v hv) Tryz.underlying65 rfl (by rw [HXL.out]; kernel_rfl) ?_
      refine wpQuiet_neq_same rfl 65 65 (.tmp 20) (.tmp 24) rfl x.toArray rfl rfl Tryz.eqGuardType65 (eq_zone HXF.out) ?_
      refine wpQuiet_nil ?_
      intro _ hw'
      obtain ⟨nq, hw''⟩ := hw'
      subst hw''
      go_wp2
      go_roundw
      case rel => exact ⟨i + 1, m + nq, by omega, by go_num, by simp [World.drewN_drewN]⟩
      case measure => simp [intOf]; omega
    · obtain rfl : i = n := by omega
      go_wp2
      go_ret
      exact ⟨rfl, m, rfl⟩
set_option maxHeartbeats 4000000 in
set_option maxRecDepth 100000 in
theorem eq_bin {x : List Value} (h : Fits ks_bin x) (w : World) : (Op.equalIn 10000 68 (.agg x.toArray) (.agg x.toArray)).run Tryz.prog w = .ok true w := by
  obtain ⟨_, _, rfl, ⟨s0, rfl⟩, _, _, rfl, ⟨s1, rfl⟩, _, _, rfl, ⟨z2, rfl⟩, _, _, rfl, ⟨z3, rfl⟩, _, _, rfl, ⟨z4, rfl⟩, _, _, rfl, ⟨z5, rfl⟩, _, _, rfl, ⟨z6, rfl⟩, _, _, rfl, ⟨b7, rfl⟩, rfl⟩ := h
  simp [go_sem]
set_option maxHeartbeats 4000000 in
set_option maxRecDepth 100000 in
theorem same_bin {A1 A2 : Option Addr} {c1 c2 : Nat} {R : List (List Value)} {w : World} (h1 : RowA w A1 8 ks_bin c1 R) (h2 : RowA w A2 8 ks_bin c2 R) :
    Calls Tryz.prog 43 #[.slice A1 R.length c1, .slice A2 R.length c2] w (SameYes w) := by
  obtain ⟨n, hn⟩ : ∃ n, n = R.length := ⟨_, rfl⟩
  rw [← hn]
  have hn1 : n ≤ 100000000 := by rw [hn]; exact h1.few
  have HN := Aside0.mk hn
  have H1 := Aside0.mk h1
  have H2 := Aside0.mk h2
  clear h1 h2 hn
  go_enter Tryz.func43, Tryz.ntmps43
  go_wp2_with (fail)
  go_loopw [5] (fun v5 wr => ∃ i m : Nat, i ≤ n ∧ v5 = .int .i64 i ∧ wr = w.drewN m) (fun v5 _ => n - (intOf v5).toNat)
  case atStart => exact ⟨0, 0, by omega, rfl, rfl⟩
  case round =>
    obtain ⟨i, m, hi, rfl, rfl⟩ := hrel
    by_cases hlt : i < n
    · obtain ⟨x, hx⟩ : ∃ x, R[i]? = some x := ⟨_, List.getElem?_eq_getElem (by have := HN.out; omega)⟩
      have hxf := H1.out.fits x (List.mem_of_getElem? hx)
      obtain ⟨a1, rfl, hb1, hc1⟩ := H1.out.at_ (by have := HN.out; omega)
      obtain ⟨a2, rfl, hb2, hc2⟩ := H2.out.at_ (by have := HN.out; omega)
      have HC1 : Aside0 (∀ (j : Nat) v, x[j]? = some v → w.cell? ((a1.add (i * 8)).add j) = some v) := ⟨fun j v hv => by rw [add_of_add]; exact hc1 i x hx j v hv⟩
      have HC2 : Aside0 (∀ (j : Nat) v, x[j]? = some v → w.cell? ((a2.add (i * 8)).add j) = some v) := ⟨fun j v hv => by rw [add_of_add]; exact hc2 i x hx j v hv⟩
      have HXL : Aside0 (x.length = 8) := ⟨fits_len hxf⟩
      have HXF := Aside0.mk hxf
      clear hx hxf hb1 hc1 hb2 hc2
      go_wp2_with (fail)
      refine wp_region_quiet_lit (by kernel_rfl) (by kernel_rfl) ?_
      quiet_step (fail)
      quiet_step (fail)
      quiet_step (fail)
      refine wpQuiet_load_at rfl 68 (.tmp 19) rfl (a1.add (i * 8)) rfl x _ (fun w' hw' j v hv => by obtain ⟨q, rfl⟩ := hw'; exact HC1.out j v hv) Tryz.underlying68 rfl (by rw [HXL.out]; kernel_rfl) ?_
      quiet_step (fail)
      quiet_step (fail)
      quiet_step (fail)
      refine wpQuiet_load_at rfl 68 (.tmp 23) rfl (a2.add (i * 8)) rfl x _ (fun w' hw' j v hv => by obtain ⟨q, rfl⟩ := hw'; exact HC2.out j v hv) Tryz.underlying68 rfl (by rw [HXL.out]; kernel_rfl) ?_
      refine wpQuiet_neq_same rfl 68 68 (.tmp 20) (.tmp 24) rfl x.toArray rfl rfl Tryz.eqGuardType68 (eq_bin HXF.out) ?_
      refine wpQuiet_nil ?_
      intro _ hw'
      obtain ⟨nq, hw''⟩ := hw'
      subst hw''
      go_wp2
      go_roundw
      case rel => exact ⟨i + 1, m + nq, by omega, by go_num, by simp [World.drewN_drewN]⟩
      case measure => simp [intOf]; omega
    · obtain rfl : i = n := by omega
      go_wp2
      go_ret
      exact ⟨rfl, m, rfl⟩
end Go.Proofs.YtgdoodeibcfcjaaGreat.Wire
