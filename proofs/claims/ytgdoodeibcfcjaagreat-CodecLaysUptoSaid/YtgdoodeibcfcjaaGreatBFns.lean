/- The reference's truth, key and line; what spells cells. Printed by bfns.py. -/
import Derived.Test.YtgdoodeibcfcjaaGreatBLoop
set_option linter.unusedVariables false
set_option linter.unusedSimpArgs false
namespace Go.Proofs.YtgdoodeibcfcjaaGreat.Wire
open Go.RowKit Go.Proofs.YtgdoodeibcfcjaaGreat.NumsPure Go.Proofs.YtgdoodeibcfcjaaGreat.CPure Go.Proofs.YtgdoodeibcfcjaaGreat.Own
open Go.Proofs.YtgdoodeibcfcjaaGreat.Put (digits digits_lt digits_ge)
theorem rtruth_any (b : Bool) (w : World) : Calls Tryz.prog 35 #[.bool b] w fun e w' => e = .returned (.string ⟨(encV (.bool b)).toArray⟩) ∧ Below w.heap.size w w' := by
  cases b
  · go_enter Tryz.func35, Tryz.ntmps35
    go_wp2
    go_ret
    exact ⟨rfl, Below.refl _ _⟩
  · go_enter Tryz.func35, Tryz.ntmps35
    go_wp2
    go_ret
    exact ⟨rfl, Below.refl _ _⟩
theorem encs_one (v : Value) : encs [v] = encV v := by simp [encs]
theorem fe_t : FE 33 9 [.t] val1 where
  cf := fun u w => by simp [go_sem]
  ld := fun p w y => ld_one (fun w => by simp [go_sem]) p w y
  enc := fun y w hf hs => by
    obtain ⟨v, r, rfl, ⟨s, rfl⟩, hr⟩ := hf
    obtain rfl : r = [] := hr
    have h1 : s.size ≤ 100000000 := hs (.string s) (by simp)
    rw [encs_one]
    exact rtext_any s (by omega) w
theorem fe_n : FE 34 3 [.n] val1 where
  cf := fun u w => by simp [go_sem]
  ld := fun p w y => ld_one (fun w => by simp [go_sem]) p w y
  enc := fun y w hf hs => by
    obtain ⟨v, r, rfl, ⟨z, rfl⟩, hr⟩ := hf
    obtain rfl : r = [] := hr
    rw [encs_one]
    exact rwhole_any z w
theorem fe_b : FE 35 4 [.b] val1 where
  cf := fun u w => by simp [go_sem]
  ld := fun p w y => ld_one (fun w => by simp [go_sem]) p w y
  enc := fun y w hf hs => by
    obtain ⟨v, r, rfl, ⟨b, rfl⟩, hr⟩ := hf
    obtain rfl : r = [] := hr
    rw [encs_one]
    exact rtruth_any b w
theorem run_boxB {o : Oper} {T : TypeId} {cs : Array Value} {ρ : Operand → Value} {x : Operand} (p : o.op = .box T x) (hx : ρ x = .agg cs) (w : World) : (execOp ρ o).run Tryz.prog w = .ok (.value (.pointer (some ⟨w.heap.size, 0, none⟩))) (w.alloc (.cells cs T)) := by
  unfold execOp
  simp [p, hx, Instr.box, Sem.run_bind, newVar, newRow, Value.cells, go_sem]
theorem add0B (b m : Nat) : (⟨b, 0, none⟩ : Addr).add m = ⟨b, m, none⟩ := by unfold Addr.add; split <;> simp_all
theorem encs_sz : ∀ (x : List Value), (∀ v ∈ x, Sz v) → (∀ v ∈ x, ∃ k, IsK k v) → (encs x).length ≤ x.length * 100000010
  | [], _, _ => by simp [encs]
  | v :: x, hs, hk => by
    have ih := encs_sz x (fun u hu => hs u (List.mem_cons_of_mem _ hu)) fun u hu => hk u (List.mem_cons_of_mem _ hu)
    have h1 : (encV v).length ≤ 100000010 := by
      obtain ⟨k, hv⟩ := hk v List.mem_cons_self
      cases k with
      | t =>
        obtain ⟨s, rfl⟩ := hv
        have : s.size ≤ 100000000 := hs _ List.mem_cons_self
        have hd : (digits s.size).length ≤ 10 := digits_le 9 _ (by omega)
        show (textB s).length ≤ _
        unfold textB
        rw [List.length_append]
        have : s.data.toList.length = s.size := by rw [Array.length_toList]; rfl
        omega
      | n =>
        obtain ⟨z, rfl⟩ := hv
        have hd : (digits (foldN z)).length ≤ 10 := digits_le 9 _ (by have := foldN_lt z; omega)
        show (digits (foldN z)).length ≤ _
        omega
      | b => obtain ⟨b, rfl⟩ := hv; show 1 ≤ _; omega
    rw [encs_cons, List.length_append, List.length_cons]
    omega
theorem fits_isK : ∀ {ks : List K} {x : List Value}, Fits ks x → ∀ v ∈ x, ∃ k, IsK k v
  | [], x, h, v, hv => by rw [show x = [] from h] at hv; cases hv
  | k :: ks, x, h, v, hv => by
    obtain ⟨u, r, rfl, hk, hr⟩ := h
    rcases List.mem_cons.1 hv with rfl | q
    · exact ⟨k, hk⟩
    · exact fits_isK hr v q
theorem fb_key_0 (b : Addr) (w : World) : (Instr.fieldAt 71 (.pointer (some b)) 0).run Tryz.prog w = .ok (.pointer (some (b.add 0))) w := by simp [go_sem]
theorem fb_key_1 (b : Addr) (w : World) : (Instr.fieldAt 71 (.pointer (some b)) 1).run Tryz.prog w = .ok (.pointer (some (b.add 1))) w := by simp [go_sem]
theorem fb_key_2 (b : Addr) (w : World) : (Instr.fieldAt 71 (.pointer (some b)) 2).run Tryz.prog w = .ok (.pointer (some (b.add 2))) w := by simp [go_sem]
theorem fb_key_3 (b : Addr) (w : World) : (Instr.fieldAt 71 (.pointer (some b)) 3).run Tryz.prog w = .ok (.pointer (some (b.add 3))) w := by simp [go_sem]
noncomputable def body_key : Code := (Tryz.f36.body).getD .skip
theorem res_key {a : Act} {w : World} {v : Value} (e2 : a.eval (.tmp 2) = v) : (results Tryz.f36 a.tmps).run Tryz.prog w = .ok v w := by
  have er : Tryz.f36.results = #[.tmp 2] := rfl
  unfold results
  rw [er]
  have e2' : a.tmps[2]?.getD undef = v := by rw [← e2]; simp [Act.eval, Array.getD_eq_getD_getElem?]
  simp [Sem.run_bind, e2']
set_option maxHeartbeats 4000000 in
set_option maxRecDepth 100000 in
theorem rkey_any (x : List Value) (hf : Fits [.t, .t, .t, .n] x) (hsz : ∀ v ∈ x, Sz v) (hl : (encs x).length ≤ 1000000000000) (w : World) : Calls Tryz.prog 36 #[valA x] w fun e w' => e = .returned (.string ⟨(encs x).toArray⟩) ∧ Below w.heap.size w w' := by
  refine calls_of_wp (c := body_key) Tryz.func36 rfl ?_
  obtain ⟨a, ha⟩ : ∃ a : Act, a = { tmps := #[valA x] ++ Array.replicate (Tryz.f36.ntmps - (#[valA x] : Array Value).size) undef, defers := [] } := ⟨_, rfl⟩
  rw [← ha]
  have z1 : a.tmps.size = 18 := by rw [ha]; simp [Tryz.ntmps36]
  have z2 : a.defers = [] := by rw [ha]
  have z3 : a.eval (.tmp 0) = .agg x.toArray := by rw [ha]; simp [Act.eval, valA]
  clear ha
  refine wp_seq (wp_region_list ?_)
  show wpList _ _ _ [_, _] a w
  refine Great.wpList_allocTo rfl (some 1) rfl _ _ (run_boxB rfl z3 w) ?_
  have v1 : (a.put (some 1) (.pointer (some ⟨w.heap.size, 0, none⟩))).eval (.tmp 1) = .pointer (some ⟨w.heap.size, 0, none⟩) := put_same _ (by rw [z1]; decide)
  have x1 := (put_size a (some 1) (.pointer (some ⟨w.heap.size, 0, none⟩))).trans z1
  have q1 := (put_defers a (some 1) (.pointer (some ⟨w.heap.size, 0, none⟩))).trans z2
  generalize a.put (some 1) (.pointer (some ⟨w.heap.size, 0, none⟩)) = a1 at v1 x1 q1
  refine wpList_mv rfl (.const (.string ⟨#[]⟩)) (.inr rfl) (wpList_nil ?_)
  have se : (a1.put (some 2) (a1.eval (.const (.string ⟨#[]⟩)))).eval (.tmp 1) = .pointer (some ⟨w.heap.size, 0, none⟩) := (put_other _ (by decide)).trans v1
  have sz := (put_size a1 (some 2) (a1.eval (.const (.string ⟨#[]⟩)))).trans x1
  have sd := (put_defers a1 (some 2) (a1.eval (.const (.string ⟨#[]⟩)))).trans q1
  show Code.wp _ (Code.seq _ _) _ (a1.put (some 2) (a1.eval (.const (.string ⟨#[]⟩)))) _
  generalize a1.put (some 2) (a1.eval (.const (.string ⟨#[]⟩))) = a2 at se sz sd
  have hcs : Cs w.heap.size 71 x (w.alloc (.cells x.toArray 71)) := cs_alloc _ _ _ _ rfl
  have hB0 := alloc_below w (.cells x.toArray 71)
  generalize w.alloc (.cells x.toArray 71) = W at hcs hB0
  have hc : ∀ m v, x[m]? = some v → ∀ w1, Below W.drew.heap.size W.drew w1 → w1.cell? ((⟨w.heap.size, 0, none⟩ : Addr).add m) = some v := fun m v hv w1 hw => by
    rw [add0B, hw.cell (p := ⟨w.heap.size, m, none⟩) hcs.lt]
    exact (hcs.cell m).trans hv
  refine wp_seq (sure_region (S := Below W.drew.heap.size W.drew) (heads := [_, _, _, _, _, _, _, _, _, _, _, _, _, _, _]) (tail := [_]) (by kernel_rfl) (by kernel_rfl) (Below.refl _ _) ?_)
  show wpHs _ _ [_, _, _, _, _, _, _, _, _, _, _, _, _, _, _] a2
  refine fc_s (u := W.drew) (d := 3) (s := 1) (off := 0) fe_t ⟨rfl, rfl, rfl, rfl, rfl, ⟨_, rfl⟩, rfl, rfl, rfl⟩ (by rw [sz]; decide) se fb_key_0 hf rfl hsz hc fun a3 l3 e0 => ?_
  have se := (l3.low 1 (by decide)).trans se; have sd := l3.defers.trans sd; have sz := l3.size.trans sz
  have ep := e0
  refine fc_s (u := W.drew) (d := 6) (s := 1) (off := 1) fe_t ⟨rfl, rfl, rfl, rfl, rfl, ⟨_, rfl⟩, rfl, rfl, rfl⟩ (by rw [sz]; decide) se fb_key_1 hf rfl hsz hc fun a4 l4 e1 => ?_
  have se := (l4.low 1 (by decide)).trans se; have sd := l4.defers.trans sd; have sz := l4.size.trans sz
  have ep := (l4.low 5 (by decide)).trans ep
  refine add_s (u := W.drew) (d := 9) (sx := 5) (sy := 8) (off := 0) (n := 1) (m := 1) (x := x) rfl rfl rfl (by rw [sz]; decide) ep (by rw [Nat.zero_add]; exact e1) hl fun a5 l5 ep => ?_
  have se := (l5.low 1 (by decide)).trans se; have sd := l5.defers.trans sd; have sz := l5.size.trans sz
  refine fc_s (u := W.drew) (d := 10) (s := 1) (off := 2) fe_t ⟨rfl, rfl, rfl, rfl, rfl, ⟨_, rfl⟩, rfl, rfl, rfl⟩ (by rw [sz]; decide) se fb_key_2 hf rfl hsz hc fun a6 l6 e2 => ?_
  have se := (l6.low 1 (by decide)).trans se; have sd := l6.defers.trans sd; have sz := l6.size.trans sz
  have ep := (l6.low 9 (by decide)).trans ep
  refine add_s (u := W.drew) (d := 13) (sx := 9) (sy := 12) (off := 0) (n := 2) (m := 1) (x := x) rfl rfl rfl (by rw [sz]; decide) ep (by rw [Nat.zero_add]; exact e2) hl fun a7 l7 ep => ?_
  have se := (l7.low 1 (by decide)).trans se; have sd := l7.defers.trans sd; have sz := l7.size.trans sz
  refine fc_s (u := W.drew) (d := 14) (s := 1) (off := 3) fe_n ⟨rfl, rfl, rfl, rfl, rfl, ⟨_, rfl⟩, rfl, rfl, rfl⟩ (by rw [sz]; decide) se fb_key_3 hf rfl hsz hc fun a8 l8 e3 => ?_
  have se := (l8.low 1 (by decide)).trans se; have sd := l8.defers.trans sd; have sz := l8.size.trans sz
  have ep := (l8.low 13 (by decide)).trans ep
  refine add_s (u := W.drew) (d := 17) (sx := 13) (sy := 16) (off := 0) (n := 3) (m := 1) (x := x) rfl rfl rfl (by rw [sz]; decide) ep (by rw [Nat.zero_add]; exact e3) hl fun a9 l9 ep => ?_
  have se := (l9.low 1 (by decide)).trans se; have sd := l9.defers.trans sd; have sz := l9.size.trans sz
  intro w1 hw1
  refine wpList_mv rfl (.tmp 17) (.inr rfl) (wpList_nil ?_)
  rw [ep]
  have e2 : (a9.put (some 2) (.string ⟨(sg x 0 4).toArray⟩)).eval (.tmp 2) = .string ⟨(sg x 0 4).toArray⟩ := put_same _ (by rw [sz]; decide)
  have d2 := (put_defers a9 (some 2) (.string ⟨(sg x 0 4).toArray⟩)).trans sd
  show Code.wp _ Code.ret _ (a9.put (some 2) (.string ⟨(sg x 0 4).toArray⟩)) w1
  generalize a9.put (some 2) (.string ⟨(sg x 0 4).toArray⟩) = a9 at e2 d2
  exact wp_ret ⟨d2, _, res_key e2, by rw [sg_all x (n := 4) (fits_len hf)], hB0.trans ((Below.refl _ W).drew.trans hw1 |>.mono hB0.size)⟩
theorem fe_key : FE 36 71 [.t, .t, .t, .n] valA where
  cf := fun u w => by simp [go_sem]
  ld := fun p w y => ld_agg Tryz.underlying71 rfl (by kernel_rfl) p w y
  enc := fun y w hf hs => rkey_any y hf hs (Nat.le_trans (encs_sz y hs (fits_isK hf)) (by rw [fits_len hf]; decide)) w
theorem fb_line_0 (b : Addr) (w : World) : (Instr.fieldAt 79 (.pointer (some b)) 0).run Tryz.prog w = .ok (.pointer (some (b.add 0))) w := by simp [go_sem]
theorem fb_line_1 (b : Addr) (w : World) : (Instr.fieldAt 79 (.pointer (some b)) 1).run Tryz.prog w = .ok (.pointer (some (b.add 1))) w := by simp [go_sem]
theorem fb_line_2 (b : Addr) (w : World) : (Instr.fieldAt 79 (.pointer (some b)) 2).run Tryz.prog w = .ok (.pointer (some (b.add 2))) w := by simp [go_sem]
theorem fb_line_3 (b : Addr) (w : World) : (Instr.fieldAt 79 (.pointer (some b)) 3).run Tryz.prog w = .ok (.pointer (some (b.add 3))) w := by simp [go_sem]
theorem fb_line_4 (b : Addr) (w : World) : (Instr.fieldAt 79 (.pointer (some b)) 4).run Tryz.prog w = .ok (.pointer (some (b.add 4))) w := by simp [go_sem]
theorem fb_line_5 (b : Addr) (w : World) : (Instr.fieldAt 79 (.pointer (some b)) 5).run Tryz.prog w = .ok (.pointer (some (b.add 5))) w := by simp [go_sem]
noncomputable def body_line : Code := (Tryz.f37.body).getD .skip
theorem res_line {a : Act} {w : World} {v : Value} (e2 : a.eval (.tmp 2) = v) : (results Tryz.f37 a.tmps).run Tryz.prog w = .ok v w := by
  have er : Tryz.f37.results = #[.tmp 2] := rfl
  unfold results
  rw [er]
  have e2' : a.tmps[2]?.getD undef = v := by rw [← e2]; simp [Act.eval, Array.getD_eq_getD_getElem?]
  simp [Sem.run_bind, e2']
set_option maxHeartbeats 4000000 in
set_option maxRecDepth 100000 in
theorem rline_any (x : List Value) (hf : Fits [.t, .n, .n, .n, .n, .n] x) (hsz : ∀ v ∈ x, Sz v) (hl : (encs x).length ≤ 1000000000000) (w : World) : Calls Tryz.prog 37 #[valA x] w fun e w' => e = .returned (.string ⟨(encs x).toArray⟩) ∧ Below w.heap.size w w' := by
  refine calls_of_wp (c := body_line) Tryz.func37 rfl ?_
  obtain ⟨a, ha⟩ : ∃ a : Act, a = { tmps := #[valA x] ++ Array.replicate (Tryz.f37.ntmps - (#[valA x] : Array Value).size) undef, defers := [] } := ⟨_, rfl⟩
  rw [← ha]
  have z1 : a.tmps.size = 26 := by rw [ha]; simp [Tryz.ntmps37]
  have z2 : a.defers = [] := by rw [ha]
  have z3 : a.eval (.tmp 0) = .agg x.toArray := by rw [ha]; simp [Act.eval, valA]
  clear ha
  refine wp_seq (wp_region_list ?_)
  show wpList _ _ _ [_, _] a w
  refine Great.wpList_allocTo rfl (some 1) rfl _ _ (run_boxB rfl z3 w) ?_
  have v1 : (a.put (some 1) (.pointer (some ⟨w.heap.size, 0, none⟩))).eval (.tmp 1) = .pointer (some ⟨w.heap.size, 0, none⟩) := put_same _ (by rw [z1]; decide)
  have x1 := (put_size a (some 1) (.pointer (some ⟨w.heap.size, 0, none⟩))).trans z1
  have q1 := (put_defers a (some 1) (.pointer (some ⟨w.heap.size, 0, none⟩))).trans z2
  generalize a.put (some 1) (.pointer (some ⟨w.heap.size, 0, none⟩)) = a1 at v1 x1 q1
  refine wpList_mv rfl (.const (.string ⟨#[]⟩)) (.inr rfl) (wpList_nil ?_)
  have se : (a1.put (some 2) (a1.eval (.const (.string ⟨#[]⟩)))).eval (.tmp 1) = .pointer (some ⟨w.heap.size, 0, none⟩) := (put_other _ (by decide)).trans v1
  have sz := (put_size a1 (some 2) (a1.eval (.const (.string ⟨#[]⟩)))).trans x1
  have sd := (put_defers a1 (some 2) (a1.eval (.const (.string ⟨#[]⟩)))).trans q1
  show Code.wp _ (Code.seq _ _) _ (a1.put (some 2) (a1.eval (.const (.string ⟨#[]⟩)))) _
  generalize a1.put (some 2) (a1.eval (.const (.string ⟨#[]⟩))) = a2 at se sz sd
  have hcs : Cs w.heap.size 79 x (w.alloc (.cells x.toArray 79)) := cs_alloc _ _ _ _ rfl
  have hB0 := alloc_below w (.cells x.toArray 79)
  generalize w.alloc (.cells x.toArray 79) = W at hcs hB0
  have hc : ∀ m v, x[m]? = some v → ∀ w1, Below W.drew.heap.size W.drew w1 → w1.cell? ((⟨w.heap.size, 0, none⟩ : Addr).add m) = some v := fun m v hv w1 hw => by
    rw [add0B, hw.cell (p := ⟨w.heap.size, m, none⟩) hcs.lt]
    exact (hcs.cell m).trans hv
  refine wp_seq (sure_region (S := Below W.drew.heap.size W.drew) (heads := [_, _, _, _, _, _, _, _, _, _, _, _, _, _, _, _, _, _, _, _, _, _, _]) (tail := [_]) (by kernel_rfl) (by kernel_rfl) (Below.refl _ _) ?_)
  show wpHs _ _ [_, _, _, _, _, _, _, _, _, _, _, _, _, _, _, _, _, _, _, _, _, _, _] a2
  refine fc_s (u := W.drew) (d := 3) (s := 1) (off := 0) fe_t ⟨rfl, rfl, rfl, rfl, rfl, ⟨_, rfl⟩, rfl, rfl, rfl⟩ (by rw [sz]; decide) se fb_line_0 hf rfl hsz hc fun a3 l3 e0 => ?_
  have se := (l3.low 1 (by decide)).trans se; have sd := l3.defers.trans sd; have sz := l3.size.trans sz
  have ep := e0
  refine fc_s (u := W.drew) (d := 6) (s := 1) (off := 1) fe_n ⟨rfl, rfl, rfl, rfl, rfl, ⟨_, rfl⟩, rfl, rfl, rfl⟩ (by rw [sz]; decide) se fb_line_1 hf rfl hsz hc fun a4 l4 e1 => ?_
  have se := (l4.low 1 (by decide)).trans se; have sd := l4.defers.trans sd; have sz := l4.size.trans sz
  have ep := (l4.low 5 (by decide)).trans ep
  refine add_s (u := W.drew) (d := 9) (sx := 5) (sy := 8) (off := 0) (n := 1) (m := 1) (x := x) rfl rfl rfl (by rw [sz]; decide) ep (by rw [Nat.zero_add]; exact e1) hl fun a5 l5 ep => ?_
  have se := (l5.low 1 (by decide)).trans se; have sd := l5.defers.trans sd; have sz := l5.size.trans sz
  refine fc_s (u := W.drew) (d := 10) (s := 1) (off := 2) fe_n ⟨rfl, rfl, rfl, rfl, rfl, ⟨_, rfl⟩, rfl, rfl, rfl⟩ (by rw [sz]; decide) se fb_line_2 hf rfl hsz hc fun a6 l6 e2 => ?_
  have se := (l6.low 1 (by decide)).trans se; have sd := l6.defers.trans sd; have sz := l6.size.trans sz
  have ep := (l6.low 9 (by decide)).trans ep
  refine add_s (u := W.drew) (d := 13) (sx := 9) (sy := 12) (off := 0) (n := 2) (m := 1) (x := x) rfl rfl rfl (by rw [sz]; decide) ep (by rw [Nat.zero_add]; exact e2) hl fun a7 l7 ep => ?_
  have se := (l7.low 1 (by decide)).trans se; have sd := l7.defers.trans sd; have sz := l7.size.trans sz
  refine fc_s (u := W.drew) (d := 14) (s := 1) (off := 3) fe_n ⟨rfl, rfl, rfl, rfl, rfl, ⟨_, rfl⟩, rfl, rfl, rfl⟩ (by rw [sz]; decide) se fb_line_3 hf rfl hsz hc fun a8 l8 e3 => ?_
  have se := (l8.low 1 (by decide)).trans se; have sd := l8.defers.trans sd; have sz := l8.size.trans sz
  have ep := (l8.low 13 (by decide)).trans ep
  refine add_s (u := W.drew) (d := 17) (sx := 13) (sy := 16) (off := 0) (n := 3) (m := 1) (x := x) rfl rfl rfl (by rw [sz]; decide) ep (by rw [Nat.zero_add]; exact e3) hl fun a9 l9 ep => ?_
  have se := (l9.low 1 (by decide)).trans se; have sd := l9.defers.trans sd; have sz := l9.size.trans sz
  refine fc_s (u := W.drew) (d := 18) (s := 1) (off := 4) fe_n ⟨rfl, rfl, rfl, rfl, rfl, ⟨_, rfl⟩, rfl, rfl, rfl⟩ (by rw [sz]; decide) se fb_line_4 hf rfl hsz hc fun a10 l10 e4 => ?_
  have se := (l10.low 1 (by decide)).trans se; have sd := l10.defers.trans sd; have sz := l10.size.trans sz
  have ep := (l10.low 17 (by decide)).trans ep
  refine add_s (u := W.drew) (d := 21) (sx := 17) (sy := 20) (off := 0) (n := 4) (m := 1) (x := x) rfl rfl rfl (by rw [sz]; decide) ep (by rw [Nat.zero_add]; exact e4) hl fun a11 l11 ep => ?_
  have se := (l11.low 1 (by decide)).trans se; have sd := l11.defers.trans sd; have sz := l11.size.trans sz
  refine fc_s (u := W.drew) (d := 22) (s := 1) (off := 5) fe_n ⟨rfl, rfl, rfl, rfl, rfl, ⟨_, rfl⟩, rfl, rfl, rfl⟩ (by rw [sz]; decide) se fb_line_5 hf rfl hsz hc fun a12 l12 e5 => ?_
  have se := (l12.low 1 (by decide)).trans se; have sd := l12.defers.trans sd; have sz := l12.size.trans sz
  have ep := (l12.low 21 (by decide)).trans ep
  refine add_s (u := W.drew) (d := 25) (sx := 21) (sy := 24) (off := 0) (n := 5) (m := 1) (x := x) rfl rfl rfl (by rw [sz]; decide) ep (by rw [Nat.zero_add]; exact e5) hl fun a13 l13 ep => ?_
  have se := (l13.low 1 (by decide)).trans se; have sd := l13.defers.trans sd; have sz := l13.size.trans sz
  intro w1 hw1
  refine wpList_mv rfl (.tmp 25) (.inr rfl) (wpList_nil ?_)
  rw [ep]
  have e2 : (a13.put (some 2) (.string ⟨(sg x 0 6).toArray⟩)).eval (.tmp 2) = .string ⟨(sg x 0 6).toArray⟩ := put_same _ (by rw [sz]; decide)
  have d2 := (put_defers a13 (some 2) (.string ⟨(sg x 0 6).toArray⟩)).trans sd
  show Code.wp _ Code.ret _ (a13.put (some 2) (.string ⟨(sg x 0 6).toArray⟩)) w1
  generalize a13.put (some 2) (.string ⟨(sg x 0 6).toArray⟩) = a9 at e2 d2
  exact wp_ret ⟨d2, _, res_line e2, by rw [sg_all x (n := 6) (fits_len hf)], hB0.trans ((Below.refl _ W).drew.trans hw1 |>.mono hB0.size)⟩
theorem fe_line : FE 37 79 [.t, .n, .n, .n, .n, .n] valA where
  cf := fun u w => by simp [go_sem]
  ld := fun p w y => ld_agg Tryz.underlying79 rfl (by kernel_rfl) p w y
  enc := fun y w hf hs => rline_any y hf hs (Nat.le_trans (encs_sz y hs (fits_isK hf)) (by rw [fits_len hf]; decide)) w
end Go.Proofs.YtgdoodeibcfcjaaGreat.Wire
