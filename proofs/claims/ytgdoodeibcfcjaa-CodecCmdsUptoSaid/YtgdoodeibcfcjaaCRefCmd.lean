/- The reference's Cmd, walked. Printed by crcmd.py. -/
import Derived.Test.YtgdoodeibcfcjaaCRLoop
import Derived.Test.YtgdoodeibcfcjaaCTherePure
import Derived.Deep.RegionLaw
set_option linter.unusedVariables false
set_option linter.unusedSimpArgs false
namespace Go.Proofs.Ytgdoodeibcfcjaa.Wire
open Go.RowKit Go.Proofs.Ytgdoodeibcfcjaa.NumsPure Go.Proofs.Ytgdoodeibcfcjaa.CPure Go.Proofs.Ytgdoodeibcfcjaa.Own
/-- What the reference's Cmd answers. -/
def RCmdV (em n : Int) (T I : List (List Value)) (w : World) (e : Ending) (w' : World) : Prop := Below w.heap.size w w' ∧ ∃ A1 c1 A2 c2, e = .returned (.tuple #[.agg #[.int .i64 n, .slice A1 T.length c1, .slice A2 I.length c2], .int .i64 em]) ∧ RowA w' A1 1 ks_str c1 T ∧ RowA w' A2 1 ks_int c2 I
theorem cf_text (vals : Array Value) (w : World) : (callFunc 24 vals).run Try.prog w = .ok (.enter 24 vals) w := by
  simp [go_sem]
theorem cf_num (vals : Array Value) (w : World) : (callFunc 25 vals).run Try.prog w = .ok (.enter 25 vals) w := by
  simp [go_sem]
theorem run_callR {P : Program} {o : Oper} {a : Act} {w : World} (fn : Nat) (args : Array Operand) (tys : Array TypeId) (ho : o.op = .call { callee := .value (.func fn), args := args, argTypes := tys }) (vals : Array Value) (hv : args.map a.eval = vals) (hcf : (callFunc fn vals).run P w = .ok (.enter fn vals) w) : (execOp a.eval o).run P w = .ok (.enter fn vals) w := by
  subst hv
  unfold execOp
  simp [ho, go_sem, hcf]
theorem step_callR {P : Program} {ops : Array Oper} {o : Oper} {a : Act} {w : World} {K : Act → World → Prop} {Q : Exit → Act → World → Prop} {E : Prop} (hg : o.guard = none) (fn : Nat) (x : Operand) (tys : Array TypeId) (ho : o.op = .call { callee := .value (.func fn), args := #[x], argTypes := tys })
    (v1 : Value) (hv : a.eval x = v1) (hcf : (callFunc fn #[v1]).run P w = .ok (.enter fn #[v1]) w) (R : Ending → World → Prop) (hc : Calls P fn #[v1] w R) (h : ∀ e w', R e w' → ∃ v, e = .returned v ∧ K (a.put o.dst v) w') :
    if Region.wanted o (yielded ops a.tmps) = true then Oper.wp P o a w K Q else E := by
  rw [if_pos (by simp [Region.wanted, hg])]
  have hrun := run_callR (P := P) (o := o) (a := a) (w := w) fn #[x] tys ho #[v1] (by simp only [List.map_toArray, List.map_cons, List.map_nil, hv]) hcf
  unfold Oper.wp
  rw [hrun, Oper.upon_enter]
  refine hc.mono fun e w' hr => ?_
  obtain ⟨v, rfl, hh⟩ := h e w' hr
  exact hh
theorem info_string1 : (Try.prog.info? 9).map (fun i => (i.zero, i.size, i.bytes)) = some (some (.string ⟨#[]⟩), 1, 16) := by kernel_rfl
theorem info_int1 : (Try.prog.info? 3).map (fun i => (i.zero, i.size, i.bytes)) = some (some (.int .i64 0), 1, 8) := by kernel_rfl
theorem rcmd_bad {D : List UInt8} {w w' : World} {em : Int} (h : endN (cmdS D) ≠ 0) (he : endN (cmdS D) = em) (hb : Below w.heap.size w w') : RCmdV (endN (cmdS D)) (cmdN D) (cmdT D) (cmdI D) w (.returned (.tuple #[.agg #[.int .i64 0, .slice none 0 0, .slice none 0 0], .int .i64 em])) w' := by
  have e1 : cmdN D = 0 := by unfold cmdN; rw [if_neg h]
  have e2 : cmdT D = [] := by unfold cmdT; rw [if_neg h]
  have e3 : cmdI D = [] := by unfold cmdI; rw [if_neg h]
  rw [e1, e2, e3, he]
  exact ⟨hb, none, 0, none, 0, rfl, ⟨fun h => absurd h (by simp), Nat.le_refl _, fun x hx => (by cases hx), by simp⟩, ⟨fun h => absurd h (by simp), Nat.le_refl _, fun x hx => (by cases hx), by simp⟩⟩
theorem rcmd_good {D : List UInt8} {w wr : World} {x0 : Int} {A0 A1 : Option Addr} {c0 c1 nn0 nn1 B0 B1 : Nat} {rows0 rows1 : List (List Value)} {u0 u1 u2 : Value} (he : endN (cmdS D) = 0) (hx : x0 = unfoldN (takeN (st_cmd_0 ⟨D, false⟩)).1) (hl : D.length ≤ 100000000) (h0 : nn0 = rows0.length) (h1 : nn1 = rows1.length)
    (e0 : rows0 = (rdList ks_str (st_cmd_1 ⟨D, false⟩)).2) (e1 : rows1 = (rdList ks_int (st_cmd_2 ⟨D, false⟩)).2) (f0 : nn0 ≤ 100000000) (f1 : nn1 ≤ 100000000)
    (o0 : wr.ownsRow B0 9 1 (.slice A0 nn0 c0) nn0 rows0.flatten) (o1 : wr.ownsRow B1 3 1 (.slice A1 nn1 c1) nn1 rows1.flatten) (hk : Cs w.heap.size 44 [.int .i64 0, .slice none 0 0, .slice none 0 0] wr)
    (hb : Below w.heap.size w (((wr.setCell ⟨w.heap.size, 0, none⟩ u0).setCell ⟨w.heap.size, 1, none⟩ u1).setCell ⟨w.heap.size, 2, none⟩ u2)) :
    RCmdV (endN (cmdS D)) (cmdN D) (cmdT D) (cmdI D) w (.returned (.tuple #[.agg #[.int .i64 x0, .slice A0 nn0 c0, .slice A1 nn1 c1], .int .i64 0])) (((wr.setCell ⟨w.heap.size, 0, none⟩ u0).setCell ⟨w.heap.size, 1, none⟩ u1).setCell ⟨w.heap.size, 2, none⟩ u2) := by
  have g1 : cmdN D = x0 := by unfold cmdN; rw [if_pos he, hx]
  have g2 : cmdT D = rows0 := by unfold cmdT; rw [if_pos he, e0]
  have g3 : cmdI D = rows1 := by unfold cmdI; rw [if_pos he, e1]
  have key : ∀ {T : TypeId} {B n c : Nat} {A : Option Addr} {xs : List Value}, T ≠ 44 → wr.ownsRow B T 1 (.slice A n c) n xs → (((wr.setCell ⟨w.heap.size, 0, none⟩ u0).setCell ⟨w.heap.size, 1, none⟩ u1).setCell ⟨w.heap.size, 2, none⟩ u2).ownsRow B T 1 (.slice A n c) n xs := fun hT h =>
    own_same h fun g hg => by
      have hne : g ≠ w.heap.size := fun e => own_ne h hk hT (by rw [hg, e])
      rw [Below.heap_setCell _ _ _ _ hne, Below.heap_setCell _ _ _ _ hne, Below.heap_setCell _ _ _ _ hne]
  subst h0 h1
  obtain ⟨A, c, q, r0⟩ := own_rowA (key (by decide) o0) (by rw [e0]; exact rdList_fits _ _) rfl f0
  obtain ⟨A', c', q', r1⟩ := own_rowA (key (by decide) o1) (by rw [e1]; exact rdList_fits _ _) rfl f1
  cases q; cases q'
  rw [g1, g2, g3, he]
  exact ⟨hb, _, _, _, _, rfl, r0, r1⟩
set_option maxHeartbeats 16000000 in
set_option maxRecDepth 100000 in
theorem rcmd_any (D : List UInt8) (S : ByteArray) (hS_ : S = ⟨D.toArray⟩) (hl : D.length ≤ 100000000) (w : World) : Calls Try.prog 10 #[.string S] w (RCmdV (endN (cmdS D)) (cmdN D) (cmdT D) (cmdI D) w) := by
  have HL := Aside0.mk hl
  have HS := Aside0.mk hS_
  clear hl hS_
  go_enter Try.func10, Try.ntmps10
  go_wp2_with (fail)
  obtain ⟨W, hW⟩ : ∃ W, W = ((w.alloc (.cells #[.int .i64 0, .slice none 0 0, .slice none 0 0] 44)).alloc (.cells #[.string S, .bool false] 67)).alloc (.cells #[.int .i64 0, .slice none 0 0, .slice none 0 0] 44) := ⟨_, rfl⟩
  have hB : Below w.heap.size w W := by rw [hW]; exact (((Below.refl _ w).alloc (Nat.le_refl _) _).alloc (by simp) _).alloc (by simp; omega) _
  have g0 : Cs w.heap.size 44 [.int .i64 0, .slice none 0 0, .slice none 0 0] W := by
    rw [hW]
    exact Cs.keep (Cs.keep (cs_alloc w _ _ _ rfl) ((alloc_below _ _).block _ (by simp))) ((alloc_below _ _).block _ (by simp; omega))
  have g1 : RW (w.heap.size + 1) (st_cmd_0 ⟨D, false⟩) W := by
    have k := cs_alloc (w.alloc (.cells #[.int .i64 0, .slice none 0 0, .slice none 0 0] 44)) #[.string S, .bool false] 67 _ rfl
    have e : (w.alloc (.cells #[.int .i64 0, .slice none 0 0, .slice none 0 0] 44)).heap.size = w.heap.size + 1 := by simp
    rw [e] at k
    have k2 := Cs.keep k ((alloc_below _ (.cells #[.int .i64 0, .slice none 0 0, .slice none 0 0] 44)).block _ (by simp))
    refine RW.of (s := ⟨D, false⟩) ?_ HL.out
    show Cs _ _ _ W
    rw [hW]
    rw [HS.out] at k2 ⊢
    exact k2
  have g2 : Cs (w.heap.size + 1 + 1) 44 [.int .i64 0, .slice none 0 0, .slice none 0 0] W := by
    rw [hW]
    have := cs_alloc ((w.alloc (.cells #[.int .i64 0, .slice none 0 0, .slice none 0 0] 44)).alloc (.cells #[.string S, .bool false] 67)) #[.int .i64 0, .slice none 0 0, .slice none 0 0] 44 _ rfl
    simpa using this
  have HG := Aside0.mk (And.intro g0 (And.intro g1 (And.intro g2 hB)))
  have hWs : w.heap.size + 1 + 1 < W.heap.size := g2.lt
  rw [← hW]
  clear hW g0 g1 g2 hB
  -- the number
  obtain ⟨x0, hx0⟩ : ∃ x, (rd1 .n (st_cmd_0 ⟨D, false⟩) (zeroV .n)).2 = .int .i64 x := isK_rd1 .n _ _ ⟨_, rfl⟩
  have HX0 : Aside0 (x0 = unfoldN (takeN (st_cmd_0 ⟨D, false⟩)).1) := ⟨by have : (rd1 .n (st_cmd_0 ⟨D, false⟩) (zeroV .n)).2 = .int .i64 (unfoldN (takeN (st_cmd_0 ⟨D, false⟩)).1) := rfl; rw [this] at hx0; cases hx0; rfl⟩
  have c0 := num_1 (w.heap.size + 1) (st_cmd_0 ⟨D, false⟩) W HG.out.2.1
  rw [hx0] at c0
  clear hx0
  refine c0.mono ?_
  clear c0
  rintro e w1 ⟨rfl, q1, f1⟩
  have H1 : Aside0 (RW (w.heap.size + 1) (st_cmd_1 ⟨D, false⟩) w1 ∧ Cs w.heap.size 44 [.int .i64 0, .slice none 0 0, .slice none 0 0] w1 ∧ Cs (w.heap.size + 1 + 1) 44 [.int .i64 0, .slice none 0 0, .slice none 0 0] w1 ∧ Fr (fun i => i = w.heap.size + 1 ∨ i = w.heap.size + 1 + 1) W w1) := ⟨q1, f1.blk HG.out.1 (by omega), f1.blk HG.out.2.2.1 (by omega), (Fr.refl _ W).trans f1 fun i hi => .inl (.inl hi)⟩
  have r0 := H1.out.2.2.1.cell 0
  have fz := H1.out.2.2.1.frozen
  simp only [List.getElem?_cons_zero] at r0
  have hw1 : w.heap.size + 1 + 1 < w1.heap.size := H1.out.2.2.1.lt
  clear q1 f1
  go_wp2_with (fail)
  have H2 : Aside0 (RW (w.heap.size + 1) (st_cmd_1 ⟨D, false⟩) (w1.setCell ⟨w.heap.size + 1 + 1, 0, none⟩ (.int .i64 x0)) ∧ Cs w.heap.size 44 [.int .i64 0, .slice none 0 0, .slice none 0 0] (w1.setCell ⟨w.heap.size + 1 + 1, 0, none⟩ (.int .i64 x0)) ∧ Cs (w.heap.size + 1 + 1) 44 [.int .i64 x0, .slice none 0 0, .slice none 0 0] (w1.setCell ⟨w.heap.size + 1 + 1, 0, none⟩ (.int .i64 x0)) ∧ Fr (fun i => i = w.heap.size + 1 ∨ i = w.heap.size + 1 + 1) W (w1.setCell ⟨w.heap.size + 1 + 1, 0, none⟩ (.int .i64 x0))) := ⟨H1.out.1.other (Below.heap_setCell _ _ _ _ (show w.heap.size + 1 ≠ w.heap.size + 1 + 1 by omega)), H1.out.2.1.other _ _ (show w.heap.size + 1 + 1 ≠ w.heap.size by omega), H1.out.2.2.1.set 0 _, H1.out.2.2.2.set _ _ (.inl (.inr rfl))⟩
  clear r0 fz H1
  obtain ⟨V0, hV0⟩ : ∃ V, V = w1.setCell ⟨w.heap.size + 1 + 1, 0, none⟩ (.int .i64 x0) := ⟨_, rfl⟩
  have hv0 : w1.heap.size = V0.heap.size := by rw [hV0]; simp
  rw [← hV0] at H2 ⊢
  rw [hv0] at hw1
  clear hV0 hv0
  refine (count_1 (s := st_cmd_1 ⟨D, false⟩) H2.out.1 (Nat.le_trans (st_cmd_1_len _) HL.out)).mono ?_
  rintro e u0 ⟨n0, t0, rfl, hn0, q1, hsl, f1, hall⟩
  have HN0 := Aside0.mk (hall ks_str)
  have HP0 : Aside0 (RLp (w.heap.size + 1) (w.heap.size + 1 + 1) w.heap.size 1 44 9 1 [.int .i64 x0, .slice none 0 0, .slice none 0 0] [.int .i64 0, .slice none 0 0, .slice none 0 0] ks_str (rdRows ks_str n0 t0) n0 t0 [] (.slice none 0 0) u0 u0) := ⟨RLp.start hn0 hsl q1 (f1.blk H2.out.2.2.1 (by omega)) (f1.blk H2.out.2.1 (by omega)) rfl (Fr.refl _ _)⟩
  have HFR0 : Aside0 (Fr (fun i => i = w.heap.size + 1 ∨ i = w.heap.size + 1 + 1) W u0) := ⟨H2.out.2.2.2.trans f1 fun i hi => .inl (.inl hi)⟩
  have HK0 : Aside0 (RW (w.heap.size + 1) t0 u0 ∧ Cs (w.heap.size + 1 + 1) 44 [.int .i64 x0, .slice none 0 0, .slice none 0 0] u0) := ⟨q1, f1.blk H2.out.2.2.1 (by omega)⟩
  have hu0 : w.heap.size + 1 + 1 < u0.heap.size := (f1.blk H2.out.2.2.1 (by omega)).lt
  clear q1 hsl f1 hall H2
  obtain ⟨i0, hI0, hz0, hz1, hz2⟩ := infoParts info_string1
  go_wp2_with (fail)
  go_loopw [6] (fun v wr => ∃ (m : Nat) (st : Rd) (rows0 : List (List Value)) (v1 : Value), v = .int .i64 m ∧ m ≤ 100000000 ∧ Aside0 (RLp (w.heap.size + 1) (w.heap.size + 1 + 1) w.heap.size 1 44 9 1 [.int .i64 x0, .slice none 0 0, .slice none 0 0] [.int .i64 0, .slice none 0 0, .slice none 0 0] ks_str (rdRows ks_str n0 t0) m st rows0 v1 u0 wr)) (fun v _ => (intOf v).toNat)
  case atStart => exact ⟨n0, t0, [], _, rfl, hn0, HP0⟩
  case round =>
    obtain ⟨m, st, rows0, v1, rfl, hm, HI⟩ := hrel
    clear HP0
    obtain ⟨A0, c0, rfl⟩ := HI.out.shape
    obtain ⟨k0, kf⟩ := HI.out.rw_.badCell
    have hlw := HI.out.rw_.lt
    have hlh := HI.out.cs.lt
    obtain ⟨qb, hqb⟩ : ∃ q, q = st.bad := ⟨_, rfl⟩
    rw [← hqb] at k0
    have HQB := Aside0.mk hqb
    clear hqb
    by_cases hgo : 0 < m ∧ qb = false
    · obtain ⟨hm0, rfl⟩ := hgo
      obtain ⟨m, rfl⟩ : ∃ k, m = k + 1 := ⟨m - 1, by omega⟩
      obtain ⟨p, hp⟩ : ∃ p, p = rd1 .t st (zeroV .t) := ⟨_, rfl⟩
      obtain ⟨x, hx⟩ : ∃ x, p.2 = .string x := by rw [hp]; exact isK_rd1 .t _ _ ⟨_, rfl⟩
      have HX : Aside0 (rds ks_str st (ks_str.map zeroV) = (p.1, [.string x])) := ⟨by rw [← hx, hp]; rfl⟩
      have ct : ∀ w2, RW (w.heap.size + 1) st w2 → Calls Try.prog 24 #[.pointer (some ⟨w.heap.size + 1, 0, none⟩)] w2 fun e w' => e = .returned (.string x) ∧ RW (w.heap.size + 1) p.1 w' ∧ Fr (fun i => i = w.heap.size + 1) w2 w' := fun w2 k => by have := text_1 (w.heap.size + 1) st w2 k; rw [← hp, hx] at this; exact this
      have CT := Aside0.mk ct
      clear ct hp hx
      have cc : wr.cell? ⟨w.heap.size + 1 + 1, 1, none⟩ = some (.slice A0 rows0.length c0) := by rw [HI.out.cs.cell]; rfl
      have f0 : wr.frozen? ⟨w.heap.size + 1 + 1, 1, none⟩ = false := HI.out.cs.frozen _
      have HUS : Aside0 (u0.heap.size ≤ wr.heap.size) := ⟨HI.out.fr.size⟩
      have hnh : Aside0 ((Value.slice A0 rows0.length c0).ownBlock ≠ some (w.heap.size + 1 + 1)) := ⟨own_ne HI.out.own HI.out.cs (by decide)⟩
      have hnr : Aside0 ((Value.slice A0 rows0.length c0).ownBlock ≠ some (w.heap.size + 1)) := ⟨rw_ne HI.out.own HI.out.rw_ (by decide)⟩
      have HFW : Aside0 (rows0.length + 1 ≤ 100000000) := ⟨by have := HI.out.few; omega⟩
      go_upto_region 7 with (fail)
      go_region_law ((first
        | (refine step_callR (by rfl) 24 (.tmp 29) _ (by rfl) (.pointer (some ⟨w.heap.size + 1, 0, none⟩)) (by rfl) (cf_text _ _) _ (CT.out _ (RW.other HI.out.rw_ rfl)) ?_; rintro e wA ⟨rfl, q1, f1⟩; refine ⟨_, rfl, ?_⟩; have f1' : Fr (fun i => i = w.heap.size + 1) wr wA := ⟨f1.os, f1.tape, f1.output, f1.size, f1.block⟩; have HA : Aside0 (RW (w.heap.size + 1) p.1 wA ∧ Cs (w.heap.size + 1 + 1) 44 ([.int .i64 x0, .slice none 0 0, .slice none 0 0].set 1 (.slice A0 rows0.length c0)) wA ∧ Cs w.heap.size 44 [.int .i64 0, .slice none 0 0, .slice none 0 0] wA ∧ wA.ownsRow u0.heap.size 9 1 (.slice A0 rows0.length c0) rows0.length rows0.flatten ∧ Fr (fun i => i = w.heap.size + 1 ∨ i = w.heap.size + 1 + 1) u0 wA) := ⟨q1, f1'.blk HI.out.cs (by omega), f1'.blk HI.out.rk (by omega), own_same HI.out.own (fun g hg => f1'.block g (HI.out.own.lt g hg).2 (fun e => hnr.out (by rw [hg, e]))), HI.out.fr.trans f1' fun i hi => .inl (.inl hi)⟩; clear q1 f1 f1'; have ka : wA.cell? ⟨w.heap.size + 1 + 1, 1, none⟩ = some (.slice A0 rows0.length c0) := (by rw [HA.out.2.1.cell]; rfl); have kb : wA.frozen? ⟨w.heap.size + 1 + 1, 1, none⟩ = false := HA.out.2.1.frozen _; have kc : w.heap.size + 1 + 1 < wA.heap.size := HA.out.2.1.lt)
        | (refine step_append_lies _ (by rfl) (.tmp 28) (.tmp 31) 41 (by rfl) u0.heap.size 9 i0 _ 1 16 Try.underlying41 hI0 hz0 hz1 hz2 (by rfl) (by decide) (.slice A0 rows0.length c0) rows0.length rows0.flatten (by rfl) (HA.out.2.2.2.1.alloc (.cells #[.string x] 9)) ⟨wA.heap.size, 0, none⟩ 1 1 [.string x] (by rfl) (by rfl) (World.news_of_block (cs := #[.string x]) (t := 9) (fr := (0, 0)) (heap_alloc_new wA _)) (by intro v hv; rw [List.mem_singleton.1 hv]; rfl) (by decide) (by unfold maxLen; have := HFW.out; omega) (by have := HFW.out; omega) (by have := HA.out.2.2.2.2.size; simp; omega) (wA.heap.size + 1) (by simp) ?_; intro gg cap wB hown1 hgrow hat hlt1; have HOW := Aside0.mk (And.intro hown1 (And.intro hgrow (And.intro hat hlt1))); have kd : wB.cell? ⟨w.heap.size + 1 + 1, 1, none⟩ = some (.slice A0 rows0.length c0) := (by rw [HOW.out.2.1.cell_far _ (by simp; omega) (Ne.symm hnh.out), World.cell?_of_block ((alloc_below wA _).block _ kc)]; exact ka); have ke : wB.frozen? ⟨w.heap.size + 1 + 1, 1, none⟩ = false := (by rw [HOW.out.2.1.frozen_far _ (by simp; omega) (Ne.symm hnh.out), World.frozen?_of_block ((alloc_below wA _).block _ kc)]; exact kb); clear hown1 hgrow hat)
        | fail))
      all_goals
        go_wp2
        go_roundw
        case rel =>
          have hgg : (Value.slice (some ⟨gg, 0, none⟩) (rows0.length + 1) cap).ownBlock ≠ some (w.heap.size + 1 + 1) := by
            intro e
            have e' : gg = w.heap.size + 1 + 1 := by simpa [Value.ownBlock] using e
            rcases HOW.out.2.2.1 with q | q
            · exact hnh.out (by rw [q, e'])
            · omega
          refine ⟨m, p.1, rows0 ++ [[.string x]], .slice (some ⟨gg, 0, none⟩) (rows0.length + 1) cap, by go_num, by omega, ⟨?_⟩⟩
          have hz := alloc_below wA (.cells #[.string x] 9)
          exact RLp.push HI.out HQB.out.symm HX.out (by decide) (by decide) (by omega) (by omega) (HA.out.1.below hz) (Cs.keep HA.out.2.1 (hz.block _ HA.out.2.1.lt)) (Cs.keep HA.out.2.2.1 (hz.block _ HA.out.2.2.1.lt)) (HA.out.2.2.2.1.alloc _) (HA.out.2.2.2.2.trans (Fr.of_below hz) fun i hi => .inl hi) HOW.out.1 HOW.out.2.1 hgg
        case measure => simp [intOf]
    · have HE : Aside0 (rdRows ks_str n0 t0 = (st, rows0)) := ⟨HI.out.done (by
        rw [← HQB.out]
        by_cases h0 : m = 0
        · exact .inl h0
        · refine .inr ?_
          cases qb with
          | true => rfl
          | false => exact absurd ⟨by omega, rfl⟩ hgo)⟩
      have hgo' : m = 0 ∨ (0 < m ∧ qb = true) := by
        by_cases h0 : m = 0
        · exact .inl h0
        · refine .inr ⟨by omega, ?_⟩
          cases qb with
          | true => rfl
          | false => exact absurd ⟨by omega, rfl⟩ hgo
      have H3 : Aside0 (RW (w.heap.size + 1) (st_cmd_2 ⟨D, false⟩) wr ∧ Cs w.heap.size 44 [.int .i64 0, .slice none 0 0, .slice none 0 0] wr ∧ Cs (w.heap.size + 1 + 1) 44 ([.int .i64 x0, .slice none 0 0, .slice none 0 0].set 1 (.slice A0 rows0.length c0)) wr ∧ Fr (fun i => i = w.heap.size + 1 ∨ i = w.heap.size + 1 + 1) W wr) := ⟨HI.out.rw_.eqv ⟨by rw [st_cmd_2_eq, ← HN0.out.2.1, HE.out], fun hb => by rw [st_cmd_2_eq] at hb ⊢; rw [← HN0.out.2.2 hb, HE.out]⟩, HI.out.rk, HI.out.cs, HFR0.out.trans HI.out.fr fun i hi => .inl hi⟩
      have HRO0 : Aside0 (wr.ownsRow u0.heap.size 9 1 (.slice A0 rows0.length c0) rows0.length rows0.flatten ∧ rows0 = (rdList ks_str (st_cmd_1 ⟨D, false⟩)).2 ∧ rows0.length ≤ 100000000) := ⟨HI.out.own, by rw [← HN0.out.1, HE.out], by have := HI.out.few; omega⟩
      obtain ⟨nn0, hnn⟩ : ∃ n, n = rows0.length := ⟨_, rfl⟩
      rw [← hnn] at H3 HRO0
      have HNN0 := Aside0.mk hnn
      clear hnn HI HN0 hgo
      have hwz0 : w.heap.size + 1 + 1 < wr.heap.size := H3.out.2.2.1.lt
      rcases hgo' with rfl | ⟨hm0, rfl⟩
      all_goals
        go_wp2_with (fail)
        refine (count_1 (s := st_cmd_2 ⟨D, false⟩) H3.out.1 (Nat.le_trans (st_cmd_2_len _) HL.out)).mono ?_
        rintro e u1 ⟨n1, t1, rfl, hn1, q1, hsl, f1, hall⟩
        have HN1 := Aside0.mk (hall ks_int)
        have HP1 : Aside0 (RLp (w.heap.size + 1) (w.heap.size + 1 + 1) w.heap.size 2 44 3 1 [.int .i64 x0, .slice A0 nn0 c0, .slice none 0 0] [.int .i64 0, .slice none 0 0, .slice none 0 0] ks_int (rdRows ks_int n1 t1) n1 t1 [] (.slice none 0 0) u1 u1) := ⟨RLp.start hn1 hsl q1 (f1.blk H3.out.2.2.1 (by omega)) (f1.blk H3.out.2.1 (by omega)) rfl (Fr.refl _ _)⟩
        have HFR1 : Aside0 (Fr (fun i => i = w.heap.size + 1 ∨ i = w.heap.size + 1 + 1) W u1) := ⟨H3.out.2.2.2.trans f1 fun i hi => .inl (.inl hi)⟩
        have HK1 : Aside0 (RW (w.heap.size + 1) t1 u1 ∧ Cs (w.heap.size + 1 + 1) 44 [.int .i64 x0, .slice A0 nn0 c0, .slice none 0 0] u1) := ⟨q1, f1.blk H3.out.2.2.1 (by omega)⟩
        have hu1 : w.heap.size + 1 + 1 < u1.heap.size := (f1.blk H3.out.2.2.1 (by omega)).lt
        have HO0 : Aside0 (u1.ownsRow u0.heap.size 9 1 (.slice A0 nn0 c0) nn0 rows0.flatten) := ⟨own_same HRO0.out.1 fun g hg => f1.block g (HRO0.out.1.lt g hg).2 (fun e => rw_ne HRO0.out.1 H3.out.1 (by decide) (by rw [hg, e]))⟩
        clear q1 hsl f1 hall H3
        obtain ⟨i0, hI0, hz0, hz1, hz2⟩ := infoParts info_int1
        go_wp2_with (fail)
        go_loopw [7] (fun v wr => ∃ (m : Nat) (st : Rd) (rows1 : List (List Value)) (v1 : Value), v = .int .i64 m ∧ m ≤ 100000000 ∧ Aside0 (RLp (w.heap.size + 1) (w.heap.size + 1 + 1) w.heap.size 2 44 3 1 [.int .i64 x0, .slice A0 nn0 c0, .slice none 0 0] [.int .i64 0, .slice none 0 0, .slice none 0 0] ks_int (rdRows ks_int n1 t1) m st rows1 v1 u1 wr)) (fun v _ => (intOf v).toNat)
        case atStart => exact ⟨n1, t1, [], _, rfl, hn1, HP1⟩
        case round =>
          obtain ⟨m, st, rows1, v1, rfl, hm, HI⟩ := hrel
          clear HP1
          obtain ⟨A1, c1, rfl⟩ := HI.out.shape
          obtain ⟨k0, kf⟩ := HI.out.rw_.badCell
          have hlw := HI.out.rw_.lt
          have hlh := HI.out.cs.lt
          obtain ⟨qb, hqb⟩ : ∃ q, q = st.bad := ⟨_, rfl⟩
          rw [← hqb] at k0
          have HQB := Aside0.mk hqb
          clear hqb
          by_cases hgo : 0 < m ∧ qb = false
          · obtain ⟨hm0, rfl⟩ := hgo
            obtain ⟨m, rfl⟩ : ∃ k, m = k + 1 := ⟨m - 1, by omega⟩
            obtain ⟨p, hp⟩ : ∃ p, p = rd1 .n st (zeroV .n) := ⟨_, rfl⟩
            obtain ⟨x, hx⟩ : ∃ x, p.2 = .int .i64 x := by rw [hp]; exact isK_rd1 .n _ _ ⟨_, rfl⟩
            have HX : Aside0 (rds ks_int st (ks_int.map zeroV) = (p.1, [.int .i64 x])) := ⟨by rw [← hx, hp]; rfl⟩
            have ct : ∀ w2, RW (w.heap.size + 1) st w2 → Calls Try.prog 25 #[.pointer (some ⟨w.heap.size + 1, 0, none⟩)] w2 fun e w' => e = .returned (.int .i64 x) ∧ RW (w.heap.size + 1) p.1 w' ∧ Fr (fun i => i = w.heap.size + 1) w2 w' := fun w2 k => by have := num_1 (w.heap.size + 1) st w2 k; rw [← hp, hx] at this; exact this
            have CT := Aside0.mk ct
            clear ct hp hx
            have cc : wr.cell? ⟨w.heap.size + 1 + 1, 2, none⟩ = some (.slice A1 rows1.length c1) := by rw [HI.out.cs.cell]; rfl
            have f0 : wr.frozen? ⟨w.heap.size + 1 + 1, 2, none⟩ = false := HI.out.cs.frozen _
            have HUS : Aside0 (u1.heap.size ≤ wr.heap.size) := ⟨HI.out.fr.size⟩
            have hnh : Aside0 ((Value.slice A1 rows1.length c1).ownBlock ≠ some (w.heap.size + 1 + 1)) := ⟨own_ne HI.out.own HI.out.cs (by decide)⟩
            have hnr : Aside0 ((Value.slice A1 rows1.length c1).ownBlock ≠ some (w.heap.size + 1)) := ⟨rw_ne HI.out.own HI.out.rw_ (by decide)⟩
            have HFW : Aside0 (rows1.length + 1 ≤ 100000000) := ⟨by have := HI.out.few; omega⟩
            go_upto_region 11 with (fail)
            go_region_law ((first
              | (refine step_callR (by rfl) 25 (.tmp 49) _ (by rfl) (.pointer (some ⟨w.heap.size + 1, 0, none⟩)) (by rfl) (cf_num _ _) _ (CT.out _ (RW.other HI.out.rw_ rfl)) ?_; rintro e wA ⟨rfl, q1, f1⟩; refine ⟨_, rfl, ?_⟩; have f1' : Fr (fun i => i = w.heap.size + 1) wr wA := ⟨f1.os, f1.tape, f1.output, f1.size, f1.block⟩; have HA : Aside0 (RW (w.heap.size + 1) p.1 wA ∧ Cs (w.heap.size + 1 + 1) 44 ([.int .i64 x0, .slice A0 nn0 c0, .slice none 0 0].set 2 (.slice A1 rows1.length c1)) wA ∧ Cs w.heap.size 44 [.int .i64 0, .slice none 0 0, .slice none 0 0] wA ∧ wA.ownsRow u1.heap.size 3 1 (.slice A1 rows1.length c1) rows1.length rows1.flatten ∧ Fr (fun i => i = w.heap.size + 1 ∨ i = w.heap.size + 1 + 1) u1 wA) := ⟨q1, f1'.blk HI.out.cs (by omega), f1'.blk HI.out.rk (by omega), own_same HI.out.own (fun g hg => f1'.block g (HI.out.own.lt g hg).2 (fun e => hnr.out (by rw [hg, e]))), HI.out.fr.trans f1' fun i hi => .inl (.inl hi)⟩; clear q1 f1 f1'; have ka : wA.cell? ⟨w.heap.size + 1 + 1, 2, none⟩ = some (.slice A1 rows1.length c1) := (by rw [HA.out.2.1.cell]; rfl); have kb : wA.frozen? ⟨w.heap.size + 1 + 1, 2, none⟩ = false := HA.out.2.1.frozen _; have kc : w.heap.size + 1 + 1 < wA.heap.size := HA.out.2.1.lt)
              | (refine step_append_lies _ (by rfl) (.tmp 48) (.tmp 51) 42 (by rfl) u1.heap.size 3 i0 _ 1 8 Try.underlying42 hI0 hz0 hz1 hz2 (by rfl) (by decide) (.slice A1 rows1.length c1) rows1.length rows1.flatten (by rfl) (HA.out.2.2.2.1.alloc (.cells #[.int .i64 x] 3)) ⟨wA.heap.size, 0, none⟩ 1 1 [.int .i64 x] (by rfl) (by rfl) (World.news_of_block (cs := #[.int .i64 x]) (t := 3) (fr := (0, 0)) (heap_alloc_new wA _)) (by intro v hv; rw [List.mem_singleton.1 hv]; rfl) (by decide) (by unfold maxLen; have := HFW.out; omega) (by have := HFW.out; omega) (by have := HA.out.2.2.2.2.size; simp; omega) (wA.heap.size + 1) (by simp) ?_; intro gg cap wB hown1 hgrow hat hlt1; have HOW := Aside0.mk (And.intro hown1 (And.intro hgrow (And.intro hat hlt1))); have kd : wB.cell? ⟨w.heap.size + 1 + 1, 2, none⟩ = some (.slice A1 rows1.length c1) := (by rw [HOW.out.2.1.cell_far _ (by simp; omega) (Ne.symm hnh.out), World.cell?_of_block ((alloc_below wA _).block _ kc)]; exact ka); have ke : wB.frozen? ⟨w.heap.size + 1 + 1, 2, none⟩ = false := (by rw [HOW.out.2.1.frozen_far _ (by simp; omega) (Ne.symm hnh.out), World.frozen?_of_block ((alloc_below wA _).block _ kc)]; exact kb); clear hown1 hgrow hat)
              | fail))
            all_goals
              go_wp2
              go_roundw
              case rel =>
                have hgg : (Value.slice (some ⟨gg, 0, none⟩) (rows1.length + 1) cap).ownBlock ≠ some (w.heap.size + 1 + 1) := by
                  intro e
                  have e' : gg = w.heap.size + 1 + 1 := by simpa [Value.ownBlock] using e
                  rcases HOW.out.2.2.1 with q | q
                  · exact hnh.out (by rw [q, e'])
                  · omega
                refine ⟨m, p.1, rows1 ++ [[.int .i64 x]], .slice (some ⟨gg, 0, none⟩) (rows1.length + 1) cap, by go_num, by omega, ⟨?_⟩⟩
                have hz := alloc_below wA (.cells #[.int .i64 x] 3)
                exact RLp.push HI.out HQB.out.symm HX.out (by decide) (by decide) (by omega) (by omega) (HA.out.1.below hz) (Cs.keep HA.out.2.1 (hz.block _ HA.out.2.1.lt)) (Cs.keep HA.out.2.2.1 (hz.block _ HA.out.2.2.1.lt)) (HA.out.2.2.2.1.alloc _) (HA.out.2.2.2.2.trans (Fr.of_below hz) fun i hi => .inl hi) HOW.out.1 HOW.out.2.1 hgg
              case measure => simp [intOf]
          · have HE : Aside0 (rdRows ks_int n1 t1 = (st, rows1)) := ⟨HI.out.done (by
              rw [← HQB.out]
              by_cases h0 : m = 0
              · exact .inl h0
              · refine .inr ?_
                cases qb with
                | true => rfl
                | false => exact absurd ⟨by omega, rfl⟩ hgo)⟩
            have hgo' : m = 0 ∨ (0 < m ∧ qb = true) := by
              by_cases h0 : m = 0
              · exact .inl h0
              · refine .inr ⟨by omega, ?_⟩
                cases qb with
                | true => rfl
                | false => exact absurd ⟨by omega, rfl⟩ hgo
            have H4 : Aside0 (RW (w.heap.size + 1) (st_cmd_3 ⟨D, false⟩) wr ∧ Cs w.heap.size 44 [.int .i64 0, .slice none 0 0, .slice none 0 0] wr ∧ Cs (w.heap.size + 1 + 1) 44 ([.int .i64 x0, .slice A0 nn0 c0, .slice none 0 0].set 2 (.slice A1 rows1.length c1)) wr ∧ Fr (fun i => i = w.heap.size + 1 ∨ i = w.heap.size + 1 + 1) W wr) := ⟨HI.out.rw_.eqv ⟨by rw [st_cmd_3_eq, ← HN1.out.2.1, HE.out], fun hb => by rw [st_cmd_3_eq] at hb ⊢; rw [← HN1.out.2.2 hb, HE.out]⟩, HI.out.rk, HI.out.cs, HFR1.out.trans HI.out.fr fun i hi => .inl hi⟩
            have HRO1 : Aside0 (wr.ownsRow u1.heap.size 3 1 (.slice A1 rows1.length c1) rows1.length rows1.flatten ∧ rows1 = (rdList ks_int (st_cmd_2 ⟨D, false⟩)).2 ∧ rows1.length ≤ 100000000) := ⟨HI.out.own, by rw [← HN1.out.1, HE.out], by have := HI.out.few; omega⟩
            obtain ⟨nn1, hnn⟩ : ∃ n, n = rows1.length := ⟨_, rfl⟩
            have HO1 : Aside0 (wr.ownsRow u0.heap.size 9 1 (.slice A0 nn0 c0) nn0 rows0.flatten) := ⟨own_same HO0.out fun g hg => HI.out.fr.block g (HO0.out.lt g hg).2 (by
              rintro (e | e)
              · exact rw_ne HO0.out HK1.out.1 (by decide) (by rw [hg, e])
              · exact own_ne HO0.out HK1.out.2 (by decide) (by rw [hg, e]))⟩
            rw [← hnn] at H4 HRO1
            have HNN1 := Aside0.mk hnn
            have hbqq : (st_cmd_3 ⟨D, false⟩).bad = qb := by rw [st_cmd_3_eq, ← HN1.out.2.1, HE.out]; exact HQB.out.symm
            clear hnn HI HN1 hgo
            have hwz1 : w.heap.size + 1 + 1 < wr.heap.size := H4.out.2.2.1.lt
            have hbq : (st_cmd_3 ⟨D, false⟩).bad = qb := hbqq
            have HBL : Aside0 (Below w.heap.size w wr) := ⟨((Fr.of_below (own := fun i => i = w.heap.size + 1 ∨ i = w.heap.size + 1 + 1) HG.out.2.2.2).trans H4.out.2.2.2 fun i hi => .inl hi).below fun i hi => (by rcases hi with e | e <;> omega)⟩
            have hk := H4.out.2.1
            have hh := H4.out.2.2.1
            obtain ⟨D', hD1, hD2, hR⟩ := H4.out.1
            obtain ⟨d0, d1, df⟩ := hR.cells
            have r0 := hk.cell 0
            have r1 := hk.cell 1
            have r2 := hk.cell 2
            have rf := hk.frozen
            have k0 := hh.cell 0
            have k1 := hh.cell 1
            have k2 := hh.cell 2
            simp only [List.getElem?_cons_zero, List.getElem?_cons_succ, List.set_cons_succ, List.set_cons_zero] at r0 r1 r2 k0 k1 k2 d0 d1
            rw [hbq] at d1 hD2
            have HBD := Aside0.mk hbq.symm
            have HD2 := Aside0.mk hD2
            have HKK := Aside0.mk (And.intro hk hh)
            clear hk hh hR hD1 hbq hD2
            cases qb with
            | true =>
              have HE : Aside0 (endN (cmdS D) = 44) := ⟨by unfold endN cmdS; rw [if_pos HBD.out.symm]⟩
              have hm01 : m = 0 ∨ 0 < m := by omega
              clear hgo'
              rcases hm01 with rfl | hm0
              all_goals
                go_wp2
                refine bodyPost_ret (v := .tuple #[.agg #[.int .i64 0, .slice none 0 0, .slice none 0 0], .int .i64 44]) (by simp [results, Try.results10, go_sem, r0, r1, r2]) rfl ?_
                exact rcmd_bad (by rw [HE.out]; decide) HE.out ((((HBL.out.setCell (p := ⟨w.heap.size, 0, none⟩) (Nat.le_refl _) _).setCell (p := ⟨w.heap.size, 1, none⟩) (Nat.le_refl _) _).setCell (p := ⟨w.heap.size, 2, none⟩) (Nat.le_refl _) _))
            | false =>
              have hDD := HD2.out rfl
              obtain rfl : m = 0 := by
                rcases hgo' with h | ⟨_, h⟩
                · exact h
                · cases h
              clear hgo'
              cases D' with
              | nil =>
                have HE : Aside0 (endN (cmdS D) = 0) := ⟨by unfold endN cmdS; rw [← HBD.out, if_neg (by simp), if_pos hDD.symm]⟩
                have he : (⟨([] : List UInt8).toArray⟩ : ByteArray).toList.isEmpty = true := by rw [ByteArray.toList_eq]; rfl
                obtain ⟨Z, hZ⟩ : ∃ Z : ByteArray, Z = ⟨([] : List UInt8).toArray⟩ := ⟨_, rfl⟩
                rw [← hZ] at d0 he
                clear hZ hDD
                go_wp2
                refine bodyPost_ret (v := .tuple #[.agg #[.int .i64 x0, .slice A0 nn0 c0, .slice A1 nn1 c1], .int .i64 0]) (by simp [results, Try.results10, go_sem, r0, r1, r2]) rfl ?_
                exact rcmd_good HE.out HX0.out HL.out HNN0.out HNN1.out HRO0.out.2.1 HRO1.out.2.1 HRO0.out.2.2 HRO1.out.2.2 HO1.out HRO1.out.1 HKK.out.1 ((((HBL.out.setCell (p := ⟨w.heap.size, 0, none⟩) (Nat.le_refl _) _).setCell (p := ⟨w.heap.size, 1, none⟩) (Nat.le_refl _) _).setCell (p := ⟨w.heap.size, 2, none⟩) (Nat.le_refl _) _))
              | cons cc rr =>
                have HE : Aside0 (endN (cmdS D) = 45) := ⟨by unfold endN cmdS; rw [← HBD.out, if_neg (by simp), if_neg (by rw [← hDD]; simp)]⟩
                have he : (⟨(cc :: rr).toArray⟩ : ByteArray).toList.isEmpty = false := by rw [ByteArray.toList_eq]; rfl
                obtain ⟨Z, hZ⟩ : ∃ Z : ByteArray, Z = ⟨(cc :: rr).toArray⟩ := ⟨_, rfl⟩
                rw [← hZ] at d0 he
                clear hZ hDD
                go_wp2
                refine bodyPost_ret (v := .tuple #[.agg #[.int .i64 0, .slice none 0 0, .slice none 0 0], .int .i64 45]) (by simp [results, Try.results10, go_sem, r0, r1, r2]) rfl ?_
                exact rcmd_bad (by rw [HE.out]; decide) HE.out ((((HBL.out.setCell (p := ⟨w.heap.size, 0, none⟩) (Nat.le_refl _) _).setCell (p := ⟨w.heap.size, 1, none⟩) (Nat.le_refl _) _).setCell (p := ⟨w.heap.size, 2, none⟩) (Nat.le_refl _) _))
end Go.Proofs.Ytgdoodeibcfcjaa.Wire
