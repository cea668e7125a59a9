/- The reference's Bytes: items, notices, orders. Printed by brefm.py. -/
import Derived.Test.YtgdoodeibcfcjaaGreatBRefL
set_option linter.unusedVariables false
set_option linter.unusedSimpArgs false
namespace Go.Proofs.YtgdoodeibcfcjaaGreat.Wire
open Go.RowKit Go.Proofs.YtgdoodeibcfcjaaGreat.NumsPure Go.Proofs.YtgdoodeibcfcjaaGreat.CPure Go.Proofs.YtgdoodeibcfcjaaGreat.Own
open Go.Proofs.YtgdoodeibcfcjaaGreat.Put (digits digits_lt digits_ge)
theorem fx_item_u (b : Addr) (w : World) : (Instr.fieldAt 59 (.pointer (some b)) 1).run Tryz.prog w = .ok (.pointer (some (b.add 1))) w := by simp [go_sem]
theorem fx_unit_0 (b : Addr) (w : World) : (Instr.fieldAt 56 (.pointer (some b)) 0).run Tryz.prog w = .ok (.pointer (some (b.add 0))) w := by simp [go_sem]
theorem fx_unit_1 (b : Addr) (w : World) : (Instr.fieldAt 56 (.pointer (some b)) 1).run Tryz.prog w = .ok (.pointer (some (b.add 1))) w := by simp [go_sem]
theorem ix_unitsB (b : Addr) (i : Nat) (w : World) (hi : i < 4) : (Instr.indexAt 57 (.pointer (some b)) (.int .i64 (i : Int))).run Tryz.prog w = .ok (.pointer (some (b.add (i * 2)))) w := by
  have h0 : (0 : Int) ≤ (i : Int) := by omega
  have h1 : (i : Int) < 4 := by omega
  simp [go_sem, h0, h1]
theorem ix_linesB (b : Addr) (i : Nat) (w : World) (hi : i < 8) : (Instr.indexAt 80 (.pointer (some b)) (.int .i64 (i : Int))).run Tryz.prog w = .ok (.pointer (some (b.add (i * 6)))) w := by
  have h0 : (0 : Int) ≤ (i : Int) := by omega
  have h1 : (i : Int) < 8 := by omega
  simp [go_sem, h0, h1]
/-- A loop's state inside a body. -/
def NB (W : World) (hb : Nat) (bs : List UInt8) (ct i e : Nat) (p : Value) (nb : Nat) (T : TypeId) (x : List Value) (a : Act) (w : World) : Prop := ∃ v, PF hb v a ∧ OB W bs v w ∧ a.eval (.tmp ct) = .int .i64 (i : Int) ∧ a.eval (.tmp e) = p ∧ (T = 59 → Cs nb T x w)
theorem NB.kept {W w : World} {hb ct i e nb : Nat} {p : Value} {T : TypeId} {x : List Value} {bs : List UInt8} {a a' : Act} (h : NB W hb bs ct i e p nb T x a w) (hz : a'.tmps.size = a.tmps.size) (hd : a'.defers = a.defers) (h1 : a'.eval (.tmp 1) = a.eval (.tmp 1)) (h3 : a'.eval (.tmp 3) = a.eval (.tmp 3)) (h4 : a'.eval (.tmp ct) = a.eval (.tmp ct)) (h5 : a'.eval (.tmp e) = a.eval (.tmp e)) : NB W hb bs ct i e p nb T x a' w := by
  obtain ⟨v, q, g, c, s, k⟩ := h
  exact ⟨v, ⟨hz.trans q.size, hd.trans q.defers, h1.trans q.s1, h3.trans q.s3⟩, g, h4.trans c, h5.trans s, k⟩
theorem NB.size {W w : World} {hb ct i e nb : Nat} {p : Value} {T : TypeId} {x : List Value} {bs : List UInt8} {a : Act} (h : NB W hb bs ct i e p nb T x a w) : a.tmps.size = 622 := by
  obtain ⟨v, q, _⟩ := h
  exact q.size
theorem fx_item_0 (b : Addr) (w : World) : (Instr.fieldAt 59 (.pointer (some b)) 0).run Tryz.prog w = .ok (.pointer (some (b.add 0))) w := by simp [go_sem]
theorem fx_item_2 (b : Addr) (w : World) : (Instr.fieldAt 59 (.pointer (some b)) 2).run Tryz.prog w = .ok (.pointer (some (b.add 9))) w := by simp [go_sem]
theorem fx_item_3 (b : Addr) (w : World) : (Instr.fieldAt 59 (.pointer (some b)) 3).run Tryz.prog w = .ok (.pointer (some (b.add 10))) w := by simp [go_sem]
theorem fx_item_4 (b : Addr) (w : World) : (Instr.fieldAt 59 (.pointer (some b)) 4).run Tryz.prog w = .ok (.pointer (some (b.add 11))) w := by simp [go_sem]
theorem fx_item_5 (b : Addr) (w : World) : (Instr.fieldAt 59 (.pointer (some b)) 5).run Tryz.prog w = .ok (.pointer (some (b.add 12))) w := by simp [go_sem]
theorem fx_item_6 (b : Addr) (w : World) : (Instr.fieldAt 59 (.pointer (some b)) 6).run Tryz.prog w = .ok (.pointer (some (b.add 13))) w := by simp [go_sem]
set_option maxHeartbeats 4000000 in
set_option maxRecDepth 100000 in
theorem bl_item {W : World} {hb : Nat} {vs : List Value} {R : Nat → List (List Value)} {z : Int} (hH : HW W hb vs R z) {a : Act} {w : World} {Q : Exit → Act → World → Prop} (h0 : LB W hb (encTo R 0 ++ digits (R 0).length) a w) (h : ∀ a' w', LB W hb (encTo R 1) a' w' → Q .normal a' w') : (partB 2).wp Tryz.prog Q a w := by
  refine bl_list (j := 0) (ct := 4) (hd := 32) (di := 37) (by decide) rfl rfl rfl ⟨rfl, rfl, rfl, rfl, rfl, rfl, rfl, rfl, rfl, ⟨_, rfl⟩, rfl, rfl, rfl, rfl, rfl⟩ ⟨rfl, rfl, rfl, rfl, ⟨_, rfl⟩, rfl, rfl, rfl, rfl⟩ (by decide) (by decide) (by decide) (by decide) (by decide) (by decide) lb_item Tryz.underlying22 hH ?_ h0 h
  intro a w i v Q hi hp hO hc hQ
  obtain ⟨x, ad, c, hx, hcell, hrow, hfx, hblk⟩ := hH.num hO.below (by decide : 0 < 14) hi
  have hxl := hH.xl (by decide : 0 < 14) hx
  have hsz := sz_of hxl
  have hxl : (encs x).length ≤ 1000000000000 := Nat.le_trans hxl (by decide)
  have hle := bsJ_le R z (by decide : 0 < 14) (i + 1)
  rw [bsJ_succ hx, List.length_append] at hle
  have hhl := hH.len
  have hbs : (bsJ R 0 i).length ≤ 100000000 := by omega
  have hi0 := hi
  obtain ⟨n, hn⟩ : ∃ n, n = (R 0).length := ⟨_, rfl⟩
  rw [← hn] at hi hcell
  refine wp_seq (cp_region (d := 39) (e := 5) (sz := 14) (ct := 4) (ks := ks_item) ⟨rfl, rfl, rfl, rfl, rfl, rfl, rfl, rfl, rfl, rfl, rfl, rfl⟩ ⟨rfl, rfl, rfl, rfl, rfl, rfl, rfl, rfl, rfl⟩ lb_item (by decide) (by decide) (by decide) (by decide) (by decide) hp hc hi hcell Tryz.underlying59 rfl (size_ofP info_item) (zero_ofP info_item) hfx hrow fun a0 w0 hp hk0 se hcs hBw => ?_)
  have hc := (hk0 4 (by decide) (by decide)).trans hc
  have hO := hO.later hBw
  obtain ⟨nb, hnb⟩ : ∃ nb, nb = w.heap.size := ⟨_, rfl⟩
  rw [← hnb] at se hcs
  show Code.wp _ (Code.seq _ _) _ a0 w0
  refine wp_seq ?_
  show Code.wp _ (Code.region _ _ _) _ a0 w0
  refine wp_region_list ?_
  refine sure_list (S := Below w0.heap.size w0) [_, _, _, _] a0 w0 (Below.refl _ _) ?_
  show wpHs _ _ [_, _, _, _] a0
  have hrow : ∀ m y, x[m]? = some y → ∀ w1, Below w0.heap.size w0 w1 → w1.cell? ((⟨nb, 0, none⟩ : Addr).add m) = some y := fun m y hy w1 hw => by rw [add0B, hw.cell (p := ⟨nb, m, none⟩) hcs.lt]; exact (hcs.cell m).trans hy
  refine mv_c (F := fun l a => wpHs (Below w0.heap.size w0) _ l a) runs_s (d := 44) rfl rfl rfl (by rw [hp.size]; decide) hp.s3 fun a1 l1 vm => ?_
  have hB : Bm hb v 4 i 44 5 (.pointer (some ⟨nb, 0, none⟩)) a1 := ⟨hp.lo l1 (by decide), (l1.low 4 (by decide)).trans hc, vm, (l1.low 5 (by decide)).trans se⟩
  refine bf_s (u := w0) (d := 45) (off := 0) fe_t ⟨rfl, rfl, rfl, rfl, rfl, ⟨_, rfl⟩, rfl, rfl, rfl⟩ hB (by decide) (by decide) (by decide) (by decide) (by decide) fx_item_0 hfx rfl hsz hrow fun a2 hB eX => ?_
  intro w1 hw1
  refine ap_tail (m := 48) (s := 47) ⟨rfl, rfl, rfl, rfl, rfl, rfl⟩ hB eX (hO.later hw1) (by have := sg_len x 0 1; show _ + (sg x 0 1).length ≤ _; omega) (by decide) (by decide) (by decide) (by decide) (by decide) (by decide) fun a' w' v' q1 q2 q3 q4 q5 q6 => ?_
  have q5 : OB W (_ ++ sg x 0 1) v' w' := q5
  have hcs1 := q6 _ _ _ (hcs.keep (hw1.block _ hcs.lt)) (by decide)
  clear hcs hp hO hk0 hc se
  show Code.wp _ (Code.seq _ _) _ a' w'
  have hU : NB W hb (bsJ R 0 i ++ sg x 0 (1 + 2 * 0)) 4 i 5 (.pointer (some ⟨nb, 0, none⟩)) nb 59 x a' w' := ⟨v', q1, q5, q2, q3, fun _ => hcs1⟩
  refine wp_seq (up_loop (ct := 6) (hs := 50) (n := 4) (fun k a w => NB W hb (bsJ R 0 i ++ sg x 0 (1 + 2 * k)) 4 i 5 (.pointer (some ⟨nb, 0, none⟩)) nb 59 x a w) (fun k a w => NB W hb (bsJ R 0 i ++ sg x 0 (1 + 2 * (k + 1))) 4 i 5 (.pointer (some ⟨nb, 0, none⟩)) nb 59 x a w) (S0 := fun a w => NB W hb (bsJ R 0 i ++ sg x 0 (1 + 2 * 0)) 4 i 5 (.pointer (some ⟨nb, 0, none⟩)) nb 59 x a w) ?_ ?_ ?_ ?_ hU ?_)
  · intro a w Q s hQ
    exact start_pl rfl rfl rfl (by rw [s.size]; decide) fun a' l k v => hQ a' (s.kept l.size l.defers (k 1 (by decide)) (k 3 (by decide)) (k 4 (by decide)) (k 5 (by decide))) v
  · intro a w k Q hk s hc hQ
    exact head_k (K := 4) ⟨rfl, rfl, rfl, ⟨_, rfl⟩, rfl, rfl⟩ (by rw [s.size]; decide) hc fun a' l v => hQ a' (s.kept l.size l.defers (l.low 1 (by decide)) (l.low 3 (by decide)) (l.low 4 (by decide)) (l.low 5 (by decide))) ((l.low 6 (by decide)).trans hc) v
  · intro a w k Q hk s hk' hQ
    obtain ⟨v, hp, hO, hc, se, hcs⟩ := s
    have hcs := hcs rfl
    have hlk := sg_len x 0 (1 + 2 * k)
    have hbs : (bsJ R 0 i ++ sg x 0 (1 + 2 * k)).length ≤ 200000000 := by rw [List.length_append]; omega
    refine sure_region (S := Below w.drew.heap.size w.drew) (heads := [_, _, _, _, _, _, _, _, _, _, _, _, _, _]) (tail := [_, _]) (by kernel_rfl) (by kernel_rfl) (Below.refl _ _) ?_
    have hO := hO.drew
    show wpHs _ _ [_, _, _, _, _, _, _, _, _, _, _, _, _, _] a
    have hy : ∀ m y, (x.drop (1 + 2 * k))[m]? = some y → ∀ w1, Below w.drew.heap.size w.drew w1 → w1.cell? ((((⟨nb, 0, none⟩ : Addr).add 1).add (k * 2)).add m) = some y := fun m y hy w1 hw => by
      rw [add_of_add, add_of_add, add0B, hw.cell (p := ⟨nb, 1 + (k * 2 + m), none⟩) hcs.lt]
      rw [List.getElem?_drop] at hy
      rw [show 1 + (k * 2 + m) = 1 + 2 * k + m by omega]
      exact (hcs.cell _).trans hy
    have hszy : ∀ v ∈ x.drop (1 + 2 * k), Sz v := fun v hv => hsz v (List.mem_of_mem_drop hv)
    have hfy := fits_drop (1 + 2 * k) hfx
    have hk4 : k = 0 ∨ k = 1 ∨ k = 2 ∨ k = 3 := by omega
    have ke0 : (((ksJ 0).drop (1 + 2 * k)).drop 0).take [K.t].length = [K.t] := by rcases hk4 with rfl | rfl | rfl | rfl <;> rfl
    have ke1 : (((ksJ 0).drop (1 + 2 * k)).drop 1).take [K.n].length = [K.n] := by rcases hk4 with rfl | rfl | rfl | rfl <;> rfl
    have hxly : (encs (x.drop (1 + 2 * k))).length ≤ 1000000000000 := by
      have e : encs x = encs (x.take (1 + 2 * k)) ++ encs (x.drop (1 + 2 * k)) := by rw [← encs_append, List.take_append_drop]
      rw [e, List.length_append] at hxl
      omega
    have B0 : Bm hb v 4 i 6 5 (.pointer (some ⟨nb, 0, none⟩)) a → True := fun _ => trivial
    refine mv_c (F := fun l a => wpHs (Below w.drew.heap.size w.drew) _ l a) runs_s (d := 53) rfl rfl rfl (by rw [hp.size]; decide) hp.s3 fun a1 l1 vm => ?_
    have hp := hp.lo l1 (by decide); have hc := (l1.low 4 (by decide)).trans hc; have se := (l1.low 5 (by decide)).trans se; have hk' := (l1.low 6 (by decide)).trans hk'
    refine mv_c (F := fun l a => wpHs (Below w.drew.heap.size w.drew) _ l a) runs_s (d := 54) rfl rfl rfl (by rw [hp.size]; decide) hk' fun a2 l2 v54 => ?_
    have hp := hp.lo l2 (by decide); have hc := (l2.low 4 (by decide)).trans hc; have se := (l2.low 5 (by decide)).trans se; have hk' := (l2.low 6 (by decide)).trans hk'; have vm := (l2.low 53 (by decide)).trans vm
    refine fa_c (F := fun l a => wpHs (Below w.drew.heap.size w.drew) _ l a) runs_s (d := 55) rfl rfl rfl (by rw [hp.size]; decide) se (fx_item_u _) fun a3 l3 v55 => ?_
    have hp := hp.lo l3 (by decide); have hc := (l3.low 4 (by decide)).trans hc; have se := (l3.low 5 (by decide)).trans se; have hk' := (l3.low 6 (by decide)).trans hk'; have vm := (l3.low 53 (by decide)).trans vm
    have v54 := (l3.low 54 (by decide)).trans v54
    refine ix_c (F := fun l a => wpHs (Below w.drew.heap.size w.drew) _ l a) runs_s (d := 56) rfl rfl rfl (by rw [hp.size]; decide) v55 v54 (fun w => ix_unitsB _ k w hk) fun a4 l4 v56 => ?_
    have hp := hp.lo l4 (by decide); have hc := (l4.low 4 (by decide)).trans hc; have se := (l4.low 5 (by decide)).trans se; have hk' := (l4.low 6 (by decide)).trans hk'; have vm := (l4.low 53 (by decide)).trans vm
    refine fc_s (u := w.drew) (d := 57) (off := 0) fe_t ⟨rfl, rfl, rfl, rfl, rfl, ⟨_, rfl⟩, rfl, rfl, rfl⟩ (by rw [hp.size]; decide) v56 fx_unit_0 hfy ke0 hszy hy fun a5 l5 e0 => ?_
    have hp := hp.lo l5 (by decide); have hc := (l5.low 4 (by decide)).trans hc; have se := (l5.low 5 (by decide)).trans se; have hk' := (l5.low 6 (by decide)).trans hk'; have vm := (l5.low 53 (by decide)).trans vm
    refine mv_c (F := fun l a => wpHs (Below w.drew.heap.size w.drew) _ l a) runs_s (d := 60) rfl rfl rfl (by rw [hp.size]; decide) hk' fun a6 l6 v60 => ?_
    have hp := hp.lo l6 (by decide); have hc := (l6.low 4 (by decide)).trans hc; have se := (l6.low 5 (by decide)).trans se; have hk' := (l6.low 6 (by decide)).trans hk'; have vm := (l6.low 53 (by decide)).trans vm; have e0 := (l6.low 59 (by decide)).trans e0
    refine fa_c (F := fun l a => wpHs (Below w.drew.heap.size w.drew) _ l a) runs_s (d := 61) rfl rfl rfl (by rw [hp.size]; decide) se (fx_item_u _) fun a7 l7 v61 => ?_
    have hp := hp.lo l7 (by decide); have hc := (l7.low 4 (by decide)).trans hc; have se := (l7.low 5 (by decide)).trans se; have hk' := (l7.low 6 (by decide)).trans hk'; have vm := (l7.low 53 (by decide)).trans vm; have e0 := (l7.low 59 (by decide)).trans e0
    have v60 := (l7.low 60 (by decide)).trans v60
    refine ix_c (F := fun l a => wpHs (Below w.drew.heap.size w.drew) _ l a) runs_s (d := 62) rfl rfl rfl (by rw [hp.size]; decide) v61 v60 (fun w => ix_unitsB _ k w hk) fun a8 l8 v62 => ?_
    have hp := hp.lo l8 (by decide); have hc := (l8.low 4 (by decide)).trans hc; have se := (l8.low 5 (by decide)).trans se; have hk' := (l8.low 6 (by decide)).trans hk'; have vm := (l8.low 53 (by decide)).trans vm; have e0 := (l8.low 59 (by decide)).trans e0
    refine fc_s (u := w.drew) (d := 63) (off := 1) fe_n ⟨rfl, rfl, rfl, rfl, rfl, ⟨_, rfl⟩, rfl, rfl, rfl⟩ (by rw [hp.size]; decide) v62 fx_unit_1 hfy ke1 hszy hy fun a9 l9 e1 => ?_
    have hp := hp.lo l9 (by decide); have hc := (l9.low 4 (by decide)).trans hc; have se := (l9.low 5 (by decide)).trans se; have hk' := (l9.low 6 (by decide)).trans hk'; have vm := (l9.low 53 (by decide)).trans vm; have e0 := (l9.low 59 (by decide)).trans e0
    refine add_s (u := w.drew) (d := 66) (sx := 59) (sy := 65) (off := 0) (n := 1) (m := 1) (x := x.drop (1 + 2 * k)) rfl rfl rfl (by rw [hp.size]; decide) e0 e1 hxly fun a10 l10 eX => ?_
    have hp := hp.lo l10 (by decide); have hc := (l10.low 4 (by decide)).trans hc; have se := (l10.low 5 (by decide)).trans se; have hk' := (l10.low 6 (by decide)).trans hk'; have vm := (l10.low 53 (by decide)).trans vm
    intro w1 hw1
    have eX : a10.eval (.tmp 66) = .string ⟨(sg x (0 + (1 + 2 * k)) 2).toArray⟩ := by rw [Nat.zero_add, ← Nat.add_zero (1 + 2 * k), ← sg_drop]; exact eX
    have hl2 := sg_len x (0 + (1 + 2 * k)) 2
    refine ap_raw (m := 67) (s := 66) ⟨rfl, rfl, rfl, rfl, rfl, rfl⟩ hp vm eX (hO.later hw1) (by omega) (by decide) (by decide) fun a' w' v' q1 q4 q5 q6 => ?_
    rw [List.append_assoc, sg_add] at q5
    exact hQ a' w' ⟨v', q1, q5, (q4 4 (by decide) (by decide)).trans hc, (q4 5 (by decide) (by decide)).trans se, fun _ => q6 _ _ _ (hcs.keep (hw1.block _ hcs.lt)) (by decide)⟩ ((q4 6 (by decide) (by decide)).trans hk')
  · intro a w k Q hk s hc hQ
    exact inc_pl (ct := 6) (d := 51) ⟨rfl, rfl, rfl, rfl, ⟨_, rfl⟩, rfl, rfl, rfl, rfl⟩ (by decide) (by rw [s.size]; decide) hc (by omega) fun a' z1 f1 k1 c1 => hQ a' (s.kept z1 f1 (k1 1 (by decide) (by decide)) (k1 3 (by decide) (by decide)) (k1 4 (by decide) (by decide)) (k1 5 (by decide) (by decide))) c1
  intro a2 w2 s
  obtain ⟨v, hp, hO, hc, se, hcs⟩ := s
  have hcs := hcs rfl
  have hlk := sg_len x 0 9
  have hbs : (bsJ R 0 i ++ sg x 0 (1 + 2 * 4)).length ≤ 200000000 := by rw [List.length_append]; show _ + (sg x 0 9).length ≤ _; omega
  show Code.wp _ (Code.region _ _ _) _ a2 w2
  refine sure_region (S := Below w2.drew.heap.size w2.drew) (heads := [_, _, _, _, _, _, _, _, _, _, _, _, _, _, _, _, _, _, _, _]) (tail := [_, _]) (by kernel_rfl) (by kernel_rfl) (Below.refl _ _) ?_
  have hO := hO.drew
  show wpHs _ _ [_, _, _, _, _, _, _, _, _, _, _, _, _, _, _, _, _, _, _, _] a2
  have hrow : ∀ m y, x[m]? = some y → ∀ w1, Below w2.drew.heap.size w2.drew w1 → w1.cell? ((⟨nb, 0, none⟩ : Addr).add m) = some y := fun m y hy w1 hw => by rw [add0B, hw.cell (p := ⟨nb, m, none⟩) hcs.lt]; exact (hcs.cell m).trans hy
  refine mv_c (F := fun l a => wpHs (Below w2.drew.heap.size w2.drew) _ l a) runs_s (d := 68) rfl rfl rfl (by rw [hp.size]; decide) hp.s3 fun a1 l1 vm => ?_
  have hB : Bm hb v 4 i 68 5 (.pointer (some ⟨nb, 0, none⟩)) a1 := ⟨hp.lo l1 (by decide), (l1.low 4 (by decide)).trans hc, vm, (l1.low 5 (by decide)).trans se⟩
  refine bf_s (u := w2.drew) (d := 69) (off := 9) fe_n ⟨rfl, rfl, rfl, rfl, rfl, ⟨_, rfl⟩, rfl, rfl, rfl⟩ hB (by decide) (by decide) (by decide) (by decide) (by decide) fx_item_2 hfx rfl hsz hrow fun a2 hB eX => ?_
  refine bfa_s (u := w2.drew) (d := 72) (sx := 71) (o := 9) (n := 1) (off := 10) fe_n ⟨rfl, rfl, rfl, rfl, rfl, ⟨_, rfl⟩, rfl, rfl, rfl⟩ ⟨rfl, ⟨_, rfl⟩, rfl⟩ hB (by decide) (by decide) (by decide) (by decide) (by decide) (by decide) eX rfl hxl fx_item_3 hfx rfl hsz hrow fun a2 hB eX => ?_
  refine bfa_s (u := w2.drew) (d := 76) (sx := 75) (o := 9) (n := 2) (off := 11) fe_b ⟨rfl, rfl, rfl, rfl, rfl, ⟨_, rfl⟩, rfl, rfl, rfl⟩ ⟨rfl, ⟨_, rfl⟩, rfl⟩ hB (by decide) (by decide) (by decide) (by decide) (by decide) (by decide) eX rfl hxl fx_item_4 hfx rfl hsz hrow fun a2 hB eX => ?_
  refine bfa_s (u := w2.drew) (d := 80) (sx := 79) (o := 9) (n := 3) (off := 12) fe_b ⟨rfl, rfl, rfl, rfl, rfl, ⟨_, rfl⟩, rfl, rfl, rfl⟩ ⟨rfl, ⟨_, rfl⟩, rfl⟩ hB (by decide) (by decide) (by decide) (by decide) (by decide) (by decide) eX rfl hxl fx_item_5 hfx rfl hsz hrow fun a2 hB eX => ?_
  refine bfa_s (u := w2.drew) (d := 84) (sx := 83) (o := 9) (n := 4) (off := 13) fe_b ⟨rfl, rfl, rfl, rfl, rfl, ⟨_, rfl⟩, rfl, rfl, rfl⟩ ⟨rfl, ⟨_, rfl⟩, rfl⟩ hB (by decide) (by decide) (by decide) (by decide) (by decide) (by decide) eX rfl hxl fx_item_6 hfx rfl hsz hrow fun a2 hB eX => ?_
  intro w1 hw1
  refine ap_tail (m := 88) (s := 87) ⟨rfl, rfl, rfl, rfl, rfl, rfl⟩ hB eX (hO.later hw1) (by have := sg_len x 9 5; show _ + (sg x 9 5).length ≤ _; omega) (by decide) (by decide) (by decide) (by decide) (by decide) (by decide) fun a' w' v' q1 q2 q3 q4 q5 q6 => ?_
  have q5 : OB W (_ ++ sg x 9 5) v' w' := q5
  have q5 : OB W ((bsJ R 0 i ++ sg x 0 9) ++ sg x (0 + 9) 5) v' w' := q5
  rw [List.append_assoc, sg_add, sg_all x (n := 14) (fits_len hfx), ← bsJ_succ hx] at q5
  exact hQ a' w' v' q1 q5 q2
theorem fx_notice_l (b : Addr) (w : World) : (Instr.fieldAt 82 (.pointer (some b)) 2).run Tryz.prog w = .ok (.pointer (some (b.add 2))) w := by simp [go_sem]
theorem fx_notice_0 (b : Addr) (w : World) : (Instr.fieldAt 82 (.pointer (some b)) 0).run Tryz.prog w = .ok (.pointer (some (b.add 0))) w := by simp [go_sem]
theorem fx_notice_1 (b : Addr) (w : World) : (Instr.fieldAt 82 (.pointer (some b)) 1).run Tryz.prog w = .ok (.pointer (some (b.add 1))) w := by simp [go_sem]
theorem fx_notice_3 (b : Addr) (w : World) : (Instr.fieldAt 82 (.pointer (some b)) 3).run Tryz.prog w = .ok (.pointer (some (b.add 50))) w := by simp [go_sem]
set_option maxHeartbeats 4000000 in
set_option maxRecDepth 100000 in
theorem bl_notice {W : World} {hb : Nat} {vs : List Value} {R : Nat → List (List Value)} {z : Int} (hH : HW W hb vs R z) {a : Act} {w : World} {Q : Exit → Act → World → Prop} (h0 : LB W hb (encTo R 6 ++ digits (R 6).length) a w) (h : ∀ a' w', LB W hb (encTo R 7) a' w' → Q .normal a' w') : (partB 14).wp Tryz.prog Q a w := by
  refine bl_list (j := 6) (ct := 13) (hd := 290) (di := 295) (by decide) rfl rfl rfl ⟨rfl, rfl, rfl, rfl, rfl, rfl, rfl, rfl, rfl, ⟨_, rfl⟩, rfl, rfl, rfl, rfl, rfl⟩ ⟨rfl, rfl, rfl, rfl, ⟨_, rfl⟩, rfl, rfl, rfl, rfl⟩ (by decide) (by decide) (by decide) (by decide) (by decide) (by decide) lb_notice Tryz.underlying28 hH ?_ h0 h
  intro a w i v Q hi hp hO hc hQ
  obtain ⟨x, ad, c, hx, hcell, hrow, hfx, hblk⟩ := hH.num hO.below (by decide : 6 < 14) hi
  have hxl := hH.xl (by decide : 6 < 14) hx
  have hsz := sz_of hxl
  have hxl : (encs x).length ≤ 1000000000000 := Nat.le_trans hxl (by decide)
  have hle := bsJ_le R z (by decide : 6 < 14) (i + 1)
  rw [bsJ_succ hx, List.length_append] at hle
  have hhl := hH.len
  have hbs : (bsJ R 6 i).length ≤ 100000000 := by omega
  have hi0 := hi
  obtain ⟨n, hn⟩ : ∃ n, n = (R 6).length := ⟨_, rfl⟩
  rw [← hn] at hi hcell
  have hcell0 := hcell
  have hrow0 := hrow
  refine wp_seq ?_
  show Code.wp _ (Code.region _ _ _) _ a w
  have hbelow0 := hO.below
  refine sure_region (S := Below w.drew.heap.size w.drew) (heads := [_, _, _, _, _, _, _, _, _, _, _, _, _, _, _, _]) (tail := [_, _]) (by kernel_rfl) (by kernel_rfl) (Below.refl _ _) ?_
  have hO := hO.drew
  show wpHs _ _ [_, _, _, _, _, _, _, _, _, _, _, _, _, _, _, _] a
  have hcell : ∀ w1, Below w.drew.heap.size w.drew w1 → w1.cell? ⟨hb, 6, none⟩ = some (.slice (some ad) n c) := fun w1 hw => by rw [hw.cell (p := ⟨hb, 6, none⟩) (Nat.lt_of_lt_of_le hH.cs.lt hO.below.size)]; exact hcell
  have hrow : ∀ m y, x[m]? = some y → ∀ w1, Below w.drew.heap.size w.drew w1 → w1.cell? ((ad.add (i * 51)).add m) = some y := fun m y hy w1 hw => by rw [add_of_add, hw.cell (p := ad.add (i * 51 + m)) (by rw [block_of_add]; exact Nat.lt_of_lt_of_le hblk hO.below.size)]; exact hrow m y hy
  refine mv_c (F := fun l a => wpHs (Below w.drew.heap.size w.drew) _ l a) runs_s (d := 297) rfl rfl rfl (by rw [hp.size]; decide) hp.s3 fun a1 l1 vm => ?_
  have hB : Bm hb v 13 i 297 13 (.int .i64 (i : Int)) a1 := ⟨hp.lo l1 (by decide), (l1.low 13 (by decide)).trans hc, vm, (l1.low 13 (by decide)).trans hc⟩
  refine df_s (u := w.drew) (d := 298) (off := 0) (i := i) lb_notice ⟨rfl, rfl, rfl, rfl, rfl, rfl, rfl, rfl, rfl, rfl, rfl, rfl⟩ fe_t ⟨rfl, rfl, rfl, rfl, rfl, ⟨_, rfl⟩, rfl, rfl, rfl⟩ hB (by decide) (by decide) (by decide) (by decide) (by decide) hi hcell fx_notice_0 hfx rfl hsz hrow fun a2 _ hB eX => ?_
  refine dfa_s (u := w.drew) (d := 305) (sx := 304) (o := 0) (k := 1) (off := 1) (i := i) lb_notice ⟨rfl, rfl, rfl, rfl, rfl, rfl, rfl, rfl, rfl, rfl, rfl, rfl⟩ fe_t ⟨rfl, rfl, rfl, rfl, rfl, ⟨_, rfl⟩, rfl, rfl, rfl⟩ ⟨rfl, ⟨_, rfl⟩, rfl⟩ hB (by decide) (by decide) (by decide) (by decide) (by decide) (by decide) hi eX rfl hxl hcell fx_notice_1 hfx rfl hsz hrow fun a2 hB eX => ?_
  intro w1 hw1
  refine ap_tail (m := 313) (s := 312) ⟨rfl, rfl, rfl, rfl, rfl, rfl⟩ hB eX (hO.later hw1) (by have := sg_len x 0 2; show _ + (sg x 0 2).length ≤ _; omega) (by decide) (by decide) (by decide) (by decide) (by decide) (by decide) fun a' w' v' q1 q2 q3 q4 q5 q6 => ?_
  have q5 : OB W (_ ++ sg x 0 2) v' w' := q5
  have hU : NB W hb (bsJ R 6 i ++ sg x 0 (2 + 6 * 0)) 13 i 13 (.int .i64 (i : Int)) 0 0 [] a' w' := ⟨v', q1, q5, q2, q2, fun q => absurd q (by decide)⟩
  clear hcell hrow
  show Code.wp _ (Code.seq _ _) _ a' w'
  refine wp_seq (up_loop (ct := 14) (hs := 315) (n := 8) (fun k a w => NB W hb (bsJ R 6 i ++ sg x 0 (2 + 6 * k)) 13 i 13 (.int .i64 (i : Int)) 0 0 [] a w) (fun k a w => NB W hb (bsJ R 6 i ++ sg x 0 (2 + 6 * (k + 1))) 13 i 13 (.int .i64 (i : Int)) 0 0 [] a w) (S0 := fun a w => NB W hb (bsJ R 6 i ++ sg x 0 (2 + 6 * 0)) 13 i 13 (.int .i64 (i : Int)) 0 0 [] a w) ?_ ?_ ?_ ?_ hU ?_)
  · intro a w Q s hQ
    exact start_pl rfl rfl rfl (by rw [s.size]; decide) fun a' l k v => hQ a' (s.kept l.size l.defers (k 1 (by decide)) (k 3 (by decide)) (k 13 (by decide)) (k 13 (by decide))) v
  · intro a w k Q hk s hc hQ
    exact head_k (K := 8) ⟨rfl, rfl, rfl, ⟨_, rfl⟩, rfl, rfl⟩ (by rw [s.size]; decide) hc fun a' l v => hQ a' (s.kept l.size l.defers (l.low 1 (by decide)) (l.low 3 (by decide)) (l.low 13 (by decide)) (l.low 13 (by decide))) ((l.low 14 (by decide)).trans hc) v
  · intro a w k Q hk s hk' hQ
    obtain ⟨v, hp, hO, hc, _, _⟩ := s
    obtain ⟨x', ad', c', hx', hcell, hrow, hfx', hblk'⟩ := hH.num hO.below (by decide : 6 < 14) hi0
    obtain rfl : x = x' := by rw [hx] at hx'; cases hx'; rfl
    rw [← hn] at hcell
    have hlk := sg_len x 0 (2 + 6 * k)
    have hbs : (bsJ R 6 i ++ sg x 0 (2 + 6 * k)).length ≤ 200000000 := by rw [List.length_append]; omega
    refine wp_region_list ?_
    refine sure_list (S := Below w.heap.size w) [_, _, _, _, _, _, _, _, _, _] a w (Below.refl _ _) ?_
    show wpHs _ _ [_, _, _, _, _, _, _, _, _, _] a
    have hcell : ∀ w1, Below w.heap.size w w1 → w1.cell? ⟨hb, 6, none⟩ = some (.slice (some ad') n c') := fun w1 hw => by rw [hw.cell (p := ⟨hb, 6, none⟩) (Nat.lt_of_lt_of_le hH.cs.lt hO.below.size)]; exact hcell
    have hy : ∀ m y, (x.drop (2 + 6 * k))[m]? = some y → ∀ w1, Below w.heap.size w w1 → w1.cell? ((((ad'.add (i * 51)).add 2).add (k * 6)).add m) = some y := fun m y hy w1 hw => by
      rw [add_of_add, add_of_add, add_of_add, hw.cell (p := ad'.add (i * 51 + (2 + (k * 6 + m)))) (by rw [block_of_add]; exact Nat.lt_of_lt_of_le hblk' hO.below.size)]
      rw [List.getElem?_drop] at hy
      rw [show 2 + (k * 6 + m) = 2 + 6 * k + m by omega]
      exact hrow _ _ hy
    have hszy : ∀ v ∈ x.drop (2 + 6 * k), Sz v := fun v hv => hsz v (List.mem_of_mem_drop hv)
    have hfy := fits_drop (2 + 6 * k) hfx
    have hk8 : k = 0 ∨ k = 1 ∨ k = 2 ∨ k = 3 ∨ k = 4 ∨ k = 5 ∨ k = 6 ∨ k = 7 := by omega
    have ke : (((ksJ 6).drop (2 + 6 * k)).drop 0).take [K.t, K.n, K.n, K.n, K.n, K.n].length = [K.t, K.n, K.n, K.n, K.n, K.n] := by rcases hk8 with rfl | rfl | rfl | rfl | rfl | rfl | rfl | rfl <;> rfl
    refine mv_c (F := fun l a => wpHs (Below w.heap.size w) _ l a) runs_s (d := 318) rfl rfl rfl (by rw [hp.size]; decide) hp.s3 fun a1 l1 vm => ?_
    have hp := hp.lo l1 (by decide); have hc := (l1.low 13 (by decide)).trans hc; have hk' := (l1.low 14 (by decide)).trans hk'
    refine out (F := fun l a => wpHs (Below w.heap.size w) _ l a) runs_s (d := 319) rfl rfl (by rw [hp.size]; decide) (.pointer (some ⟨hb, 6, none⟩)) (fun w _ => by unfold execOp; simp only [hp.s1, Sem.run_bind, lb_notice.fa, Result.andThen_ok, Sem.run_pure]) fun a2 l2 w1_ => ?_
    have hp := hp.lo l2 (by decide); have hc := (l2.low 13 (by decide)).trans hc; have hk' := (l2.low 14 (by decide)).trans hk'; have vm := (l2.low 318 (by decide)).trans vm
    refine ld_c (F := fun l a => wpHs (Below w.heap.size w) _ l a) runs_s (d := 320) rfl rfl rfl (by rw [hp.size]; decide) w1_ lb_notice.ag hcell fun a3 l3 w2_ => ?_
    have hp := hp.lo l3 (by decide); have hc := (l3.low 13 (by decide)).trans hc; have hk' := (l3.low 14 (by decide)).trans hk'; have vm := (l3.low 318 (by decide)).trans vm
    refine mv_c (F := fun l a => wpHs (Below w.heap.size w) _ l a) runs_s (d := 321) rfl rfl rfl (by rw [hp.size]; decide) hc fun a4 l4 w3_ => ?_
    have hp := hp.lo l4 (by decide); have hc := (l4.low 13 (by decide)).trans hc; have hk' := (l4.low 14 (by decide)).trans hk'; have vm := (l4.low 318 (by decide)).trans vm; have w2_ := (l4.low 320 (by decide)).trans w2_
    refine mv_c (F := fun l a => wpHs (Below w.heap.size w) _ l a) runs_s (d := 322) rfl rfl rfl (by rw [hp.size]; decide) hk' fun a5 l5 w4_ => ?_
    have hp := hp.lo l5 (by decide); have hc := (l5.low 13 (by decide)).trans hc; have hk' := (l5.low 14 (by decide)).trans hk'; have vm := (l5.low 318 (by decide)).trans vm; have w2_ := (l5.low 320 (by decide)).trans w2_; have w3_ := (l5.low 321 (by decide)).trans w3_
    refine ix_c (F := fun l a => wpHs (Below w.heap.size w) _ l a) runs_s (d := 323) rfl rfl rfl (by rw [hp.size]; decide) w2_ w3_ (fun w => lb_notice.ix ad' n c' i w hi) fun a6 l6 w5_ => ?_
    have hp := hp.lo l6 (by decide); have hc := (l6.low 13 (by decide)).trans hc; have hk' := (l6.low 14 (by decide)).trans hk'; have vm := (l6.low 318 (by decide)).trans vm; have w4_ := (l6.low 322 (by decide)).trans w4_
    refine fa_c (F := fun l a => wpHs (Below w.heap.size w) _ l a) runs_s (d := 324) rfl rfl rfl (by rw [hp.size]; decide) w5_ (fx_notice_l _) fun a7 l7 w6_ => ?_
    have hp := hp.lo l7 (by decide); have hc := (l7.low 13 (by decide)).trans hc; have hk' := (l7.low 14 (by decide)).trans hk'; have vm := (l7.low 318 (by decide)).trans vm; have w4_ := (l7.low 322 (by decide)).trans w4_
    refine ix_c (F := fun l a => wpHs (Below w.heap.size w) _ l a) runs_s (d := 325) rfl rfl rfl (by rw [hp.size]; decide) w6_ w4_ (fun w => ix_linesB _ k w hk) fun a8 l8 w7_ => ?_
    have hp := hp.lo l8 (by decide); have hc := (l8.low 13 (by decide)).trans hc; have hk' := (l8.low 14 (by decide)).trans hk'; have vm := (l8.low 318 (by decide)).trans vm
    refine lc_s (u := w) (s := 325) (t := 326) (off := 0) (x := x.drop (2 + 6 * k)) fe_line rfl rfl rfl rfl rfl rfl (by rw [hp.size]; decide) (by rw [addr_add0]; exact w7_) hfy ke hszy hy fun a9 l9 eX => ?_
    have hp := hp.lo l9 (by decide); have hc := (l9.low 13 (by decide)).trans hc; have hk' := (l9.low 14 (by decide)).trans hk'; have vm := (l9.low 318 (by decide)).trans vm
    intro w1 hw1
    have eX : a9.eval (.tmp 327) = .string ⟨(sg x (0 + (2 + 6 * k)) 6).toArray⟩ := by rw [Nat.zero_add, ← Nat.add_zero (2 + 6 * k), ← sg_drop]; exact eX
    have hl2 := sg_len x (0 + (2 + 6 * k)) 6
    refine ap_raw (m := 328) (s := 327) ⟨rfl, rfl, rfl, rfl, rfl, rfl⟩ hp vm eX (hO.later hw1) (by omega) (by decide) (by decide) fun a' w' v' q1 q4 q5 _ => ?_
    rw [List.append_assoc, sg_add] at q5
    exact hQ a' w' ⟨v', q1, q5, (q4 13 (by decide) (by decide)).trans hc, (q4 13 (by decide) (by decide)).trans hc, fun q => absurd q (by decide)⟩ ((q4 14 (by decide) (by decide)).trans hk')
  · intro a w k Q hk s hc hQ
    exact inc_pl (ct := 14) (d := 316) ⟨rfl, rfl, rfl, rfl, ⟨_, rfl⟩, rfl, rfl, rfl, rfl⟩ (by decide) (by rw [s.size]; decide) hc (by omega) fun a' z1 f1 k1 c1 => hQ a' (s.kept z1 f1 (k1 1 (by decide) (by decide)) (k1 3 (by decide) (by decide)) (k1 13 (by decide) (by decide)) (k1 13 (by decide) (by decide))) c1
  intro a2 w2 s
  obtain ⟨v, hp, hO, hc, _, _⟩ := s
  obtain ⟨x', ad, c, hx', hcell, hrow, hfx', hblk⟩ := hH.num hO.below (by decide : 6 < 14) hi0
  obtain rfl : x = x' := by rw [hx] at hx'; cases hx'; rfl
  rw [← hn] at hcell
  have hlk := sg_len x 0 50
  have hbs : (bsJ R 6 i ++ sg x 0 (2 + 6 * 8)).length ≤ 200000000 := by rw [List.length_append]; show _ + (sg x 0 50).length ≤ _; omega
  show Code.wp _ (Code.region _ _ _) _ a2 w2
  refine wp_region_list ?_
  refine sure_list (S := Below w2.heap.size w2) [_, _, _, _, _, _, _, _] a2 w2 (Below.refl _ _) ?_
  show wpHs _ _ [_, _, _, _, _, _, _, _] a2
  have hcell : ∀ w1, Below w2.heap.size w2 w1 → w1.cell? ⟨hb, 6, none⟩ = some (.slice (some ad) n c) := fun w1 hw => by rw [hw.cell (p := ⟨hb, 6, none⟩) (Nat.lt_of_lt_of_le hH.cs.lt hO.below.size)]; exact hcell
  have hrow : ∀ m y, x[m]? = some y → ∀ w1, Below w2.heap.size w2 w1 → w1.cell? ((ad.add (i * 51)).add m) = some y := fun m y hy w1 hw => by rw [add_of_add, hw.cell (p := ad.add (i * 51 + m)) (by rw [block_of_add]; exact Nat.lt_of_lt_of_le hblk hO.below.size)]; exact hrow m y hy
  refine mv_c (F := fun l a => wpHs (Below w2.heap.size w2) _ l a) runs_s (d := 329) rfl rfl rfl (by rw [hp.size]; decide) hp.s3 fun a1 l1 vm => ?_
  have hB : Bm hb v 13 i 329 13 (.int .i64 (i : Int)) a1 := ⟨hp.lo l1 (by decide), (l1.low 13 (by decide)).trans hc, vm, (l1.low 13 (by decide)).trans hc⟩
  refine df_s (u := w2) (d := 330) (off := 50) (i := i) lb_notice ⟨rfl, rfl, rfl, rfl, rfl, rfl, rfl, rfl, rfl, rfl, rfl, rfl⟩ fe_b ⟨rfl, rfl, rfl, rfl, rfl, ⟨_, rfl⟩, rfl, rfl, rfl⟩ hB (by decide) (by decide) (by decide) (by decide) (by decide) hi hcell fx_notice_3 hfx rfl hsz hrow fun a2 _ hB eX => ?_
  intro w1 hw1
  refine ap_tail (m := 337) (s := 336) ⟨rfl, rfl, rfl, rfl, rfl, rfl⟩ hB eX (hO.later hw1) (by have := sg_len x 50 1; show _ + (sg x 50 1).length ≤ _; omega) (by decide) (by decide) (by decide) (by decide) (by decide) (by decide) fun a' w' v' q1 q2 q3 q4 q5 q6 => ?_
  have q5 : OB W (_ ++ sg x 50 1) v' w' := q5
  have q5 : OB W ((bsJ R 6 i ++ sg x 0 50) ++ sg x (0 + 50) 1) v' w' := q5
  rw [List.append_assoc, sg_add, sg_all x (n := 51) (fits_len hfx), ← bsJ_succ hx] at q5
  exact hQ a' w' v' q1 q5 q2
theorem fx_order_l (b : Addr) (w : World) : (Instr.fieldAt 85 (.pointer (some b)) 2).run Tryz.prog w = .ok (.pointer (some (b.add 2))) w := by simp [go_sem]
theorem fx_order_0 (b : Addr) (w : World) : (Instr.fieldAt 85 (.pointer (some b)) 0).run Tryz.prog w = .ok (.pointer (some (b.add 0))) w := by simp [go_sem]
theorem fx_order_1 (b : Addr) (w : World) : (Instr.fieldAt 85 (.pointer (some b)) 1).run Tryz.prog w = .ok (.pointer (some (b.add 1))) w := by simp [go_sem]
set_option maxHeartbeats 4000000 in
set_option maxRecDepth 100000 in
theorem bl_order {W : World} {hb : Nat} {vs : List Value} {R : Nat → List (List Value)} {z : Int} (hH : HW W hb vs R z) {a : Act} {w : World} {Q : Exit → Act → World → Prop} (h0 : LB W hb (encTo R 7 ++ digits (R 7).length) a w) (h : ∀ a' w', LB W hb (encTo R 8) a' w' → Q .normal a' w') : (partB 16).wp Tryz.prog Q a w := by
  refine bl_list (j := 7) (ct := 15) (hd := 344) (di := 349) (by decide) rfl rfl rfl ⟨rfl, rfl, rfl, rfl, rfl, rfl, rfl, rfl, rfl, ⟨_, rfl⟩, rfl, rfl, rfl, rfl, rfl⟩ ⟨rfl, rfl, rfl, rfl, ⟨_, rfl⟩, rfl, rfl, rfl, rfl⟩ (by decide) (by decide) (by decide) (by decide) (by decide) (by decide) lb_order Tryz.underlying29 hH ?_ h0 h
  intro a w i v Q hi hp hO hc hQ
  obtain ⟨x, ad, c, hx, hcell, hrow, hfx, hblk⟩ := hH.num hO.below (by decide : 7 < 14) hi
  have hxl := hH.xl (by decide : 7 < 14) hx
  have hsz := sz_of hxl
  have hxl : (encs x).length ≤ 1000000000000 := Nat.le_trans hxl (by decide)
  have hle := bsJ_le R z (by decide : 7 < 14) (i + 1)
  rw [bsJ_succ hx, List.length_append] at hle
  have hhl := hH.len
  have hbs : (bsJ R 7 i).length ≤ 100000000 := by omega
  have hi0 := hi
  obtain ⟨n, hn⟩ : ∃ n, n = (R 7).length := ⟨_, rfl⟩
  rw [← hn] at hi hcell
  have hcell0 := hcell
  have hrow0 := hrow
  refine wp_seq ?_
  show Code.wp _ (Code.region _ _ _) _ a w
  have hbelow0 := hO.below
  refine sure_region (S := Below w.drew.heap.size w.drew) (heads := [_, _, _, _, _, _, _, _, _, _, _, _, _, _, _, _]) (tail := [_, _]) (by kernel_rfl) (by kernel_rfl) (Below.refl _ _) ?_
  have hO := hO.drew
  show wpHs _ _ [_, _, _, _, _, _, _, _, _, _, _, _, _, _, _, _] a
  have hcell : ∀ w1, Below w.drew.heap.size w.drew w1 → w1.cell? ⟨hb, 7, none⟩ = some (.slice (some ad) n c) := fun w1 hw => by rw [hw.cell (p := ⟨hb, 7, none⟩) (Nat.lt_of_lt_of_le hH.cs.lt hO.below.size)]; exact hcell
  have hrow : ∀ m y, x[m]? = some y → ∀ w1, Below w.drew.heap.size w.drew w1 → w1.cell? ((ad.add (i * 50)).add m) = some y := fun m y hy w1 hw => by rw [add_of_add, hw.cell (p := ad.add (i * 50 + m)) (by rw [block_of_add]; exact Nat.lt_of_lt_of_le hblk hO.below.size)]; exact hrow m y hy
  refine mv_c (F := fun l a => wpHs (Below w.drew.heap.size w.drew) _ l a) runs_s (d := 351) rfl rfl rfl (by rw [hp.size]; decide) hp.s3 fun a1 l1 vm => ?_
  have hB : Bm hb v 15 i 351 15 (.int .i64 (i : Int)) a1 := ⟨hp.lo l1 (by decide), (l1.low 15 (by decide)).trans hc, vm, (l1.low 15 (by decide)).trans hc⟩
  refine df_s (u := w.drew) (d := 352) (off := 0) (i := i) lb_order ⟨rfl, rfl, rfl, rfl, rfl, rfl, rfl, rfl, rfl, rfl, rfl, rfl⟩ fe_t ⟨rfl, rfl, rfl, rfl, rfl, ⟨_, rfl⟩, rfl, rfl, rfl⟩ hB (by decide) (by decide) (by decide) (by decide) (by decide) hi hcell fx_order_0 hfx rfl hsz hrow fun a2 _ hB eX => ?_
  refine dfa_s (u := w.drew) (d := 359) (sx := 358) (o := 0) (k := 1) (off := 1) (i := i) lb_order ⟨rfl, rfl, rfl, rfl, rfl, rfl, rfl, rfl, rfl, rfl, rfl, rfl⟩ fe_t ⟨rfl, rfl, rfl, rfl, rfl, ⟨_, rfl⟩, rfl, rfl, rfl⟩ ⟨rfl, ⟨_, rfl⟩, rfl⟩ hB (by decide) (by decide) (by decide) (by decide) (by decide) (by decide) hi eX rfl hxl hcell fx_order_1 hfx rfl hsz hrow fun a2 hB eX => ?_
  intro w1 hw1
  refine ap_tail (m := 367) (s := 366) ⟨rfl, rfl, rfl, rfl, rfl, rfl⟩ hB eX (hO.later hw1) (by have := sg_len x 0 2; show _ + (sg x 0 2).length ≤ _; omega) (by decide) (by decide) (by decide) (by decide) (by decide) (by decide) fun a' w' v' q1 q2 q3 q4 q5 q6 => ?_
  have q5 : OB W (_ ++ sg x 0 2) v' w' := q5
  have hU : NB W hb (bsJ R 7 i ++ sg x 0 (2 + 6 * 0)) 15 i 15 (.int .i64 (i : Int)) 0 0 [] a' w' := ⟨v', q1, q5, q2, q2, fun q => absurd q (by decide)⟩
  clear hcell hrow
  show Code.wp _ (Code.seq _ _) _ a' w'
  refine up_loop (ct := 16) (hs := 369) (n := 8) (fun k a w => NB W hb (bsJ R 7 i ++ sg x 0 (2 + 6 * k)) 15 i 15 (.int .i64 (i : Int)) 0 0 [] a w) (fun k a w => NB W hb (bsJ R 7 i ++ sg x 0 (2 + 6 * (k + 1))) 15 i 15 (.int .i64 (i : Int)) 0 0 [] a w) (S0 := fun a w => NB W hb (bsJ R 7 i ++ sg x 0 (2 + 6 * 0)) 15 i 15 (.int .i64 (i : Int)) 0 0 [] a w) ?_ ?_ ?_ ?_ hU ?_
  · intro a w Q s hQ
    exact start_pl rfl rfl rfl (by rw [s.size]; decide) fun a' l k v => hQ a' (s.kept l.size l.defers (k 1 (by decide)) (k 3 (by decide)) (k 15 (by decide)) (k 15 (by decide))) v
  · intro a w k Q hk s hc hQ
    exact head_k (K := 8) ⟨rfl, rfl, rfl, ⟨_, rfl⟩, rfl, rfl⟩ (by rw [s.size]; decide) hc fun a' l v => hQ a' (s.kept l.size l.defers (l.low 1 (by decide)) (l.low 3 (by decide)) (l.low 15 (by decide)) (l.low 15 (by decide))) ((l.low 16 (by decide)).trans hc) v
  · intro a w k Q hk s hk' hQ
    obtain ⟨v, hp, hO, hc, _, _⟩ := s
    obtain ⟨x', ad', c', hx', hcell, hrow, hfx', hblk'⟩ := hH.num hO.below (by decide : 7 < 14) hi0
    obtain rfl : x = x' := by rw [hx] at hx'; cases hx'; rfl
    rw [← hn] at hcell
    have hlk := sg_len x 0 (2 + 6 * k)
    have hbs : (bsJ R 7 i ++ sg x 0 (2 + 6 * k)).length ≤ 200000000 := by rw [List.length_append]; omega
    refine wp_region_list ?_
    refine sure_list (S := Below w.heap.size w) [_, _, _, _, _, _, _, _, _, _] a w (Below.refl _ _) ?_
    show wpHs _ _ [_, _, _, _, _, _, _, _, _, _] a
    have hcell : ∀ w1, Below w.heap.size w w1 → w1.cell? ⟨hb, 7, none⟩ = some (.slice (some ad') n c') := fun w1 hw => by rw [hw.cell (p := ⟨hb, 7, none⟩) (Nat.lt_of_lt_of_le hH.cs.lt hO.below.size)]; exact hcell
    have hy : ∀ m y, (x.drop (2 + 6 * k))[m]? = some y → ∀ w1, Below w.heap.size w w1 → w1.cell? ((((ad'.add (i * 50)).add 2).add (k * 6)).add m) = some y := fun m y hy w1 hw => by
      rw [add_of_add, add_of_add, add_of_add, hw.cell (p := ad'.add (i * 50 + (2 + (k * 6 + m)))) (by rw [block_of_add]; exact Nat.lt_of_lt_of_le hblk' hO.below.size)]
      rw [List.getElem?_drop] at hy
      rw [show 2 + (k * 6 + m) = 2 + 6 * k + m by omega]
      exact hrow _ _ hy
    have hszy : ∀ v ∈ x.drop (2 + 6 * k), Sz v := fun v hv => hsz v (List.mem_of_mem_drop hv)
    have hfy := fits_drop (2 + 6 * k) hfx
    have hk8 : k = 0 ∨ k = 1 ∨ k = 2 ∨ k = 3 ∨ k = 4 ∨ k = 5 ∨ k = 6 ∨ k = 7 := by omega
    have ke : (((ksJ 7).drop (2 + 6 * k)).drop 0).take [K.t, K.n, K.n, K.n, K.n, K.n].length = [K.t, K.n, K.n, K.n, K.n, K.n] := by rcases hk8 with rfl | rfl | rfl | rfl | rfl | rfl | rfl | rfl <;> rfl
    refine mv_c (F := fun l a => wpHs (Below w.heap.size w) _ l a) runs_s (d := 372) rfl rfl rfl (by rw [hp.size]; decide) hp.s3 fun a1 l1 vm => ?_
    have hp := hp.lo l1 (by decide); have hc := (l1.low 15 (by decide)).trans hc; have hk' := (l1.low 16 (by decide)).trans hk'
    refine out (F := fun l a => wpHs (Below w.heap.size w) _ l a) runs_s (d := 373) rfl rfl (by rw [hp.size]; decide) (.pointer (some ⟨hb, 7, none⟩)) (fun w _ => by unfold execOp; simp only [hp.s1, Sem.run_bind, lb_order.fa, Result.andThen_ok, Sem.run_pure]) fun a2 l2 w1_ => ?_
    have hp := hp.lo l2 (by decide); have hc := (l2.low 15 (by decide)).trans hc; have hk' := (l2.low 16 (by decide)).trans hk'; have vm := (l2.low 372 (by decide)).trans vm
    refine ld_c (F := fun l a => wpHs (Below w.heap.size w) _ l a) runs_s (d := 374) rfl rfl rfl (by rw [hp.size]; decide) w1_ lb_order.ag hcell fun a3 l3 w2_ => ?_
    have hp := hp.lo l3 (by decide); have hc := (l3.low 15 (by decide)).trans hc; have hk' := (l3.low 16 (by decide)).trans hk'; have vm := (l3.low 372 (by decide)).trans vm
    refine mv_c (F := fun l a => wpHs (Below w.heap.size w) _ l a) runs_s (d := 375) rfl rfl rfl (by rw [hp.size]; decide) hc fun a4 l4 w3_ => ?_
    have hp := hp.lo l4 (by decide); have hc := (l4.low 15 (by decide)).trans hc; have hk' := (l4.low 16 (by decide)).trans hk'; have vm := (l4.low 372 (by decide)).trans vm; have w2_ := (l4.low 374 (by decide)).trans w2_
    refine mv_c (F := fun l a => wpHs (Below w.heap.size w) _ l a) runs_s (d := 376) rfl rfl rfl (by rw [hp.size]; decide) hk' fun a5 l5 w4_ => ?_
    have hp := hp.lo l5 (by decide); have hc := (l5.low 15 (by decide)).trans hc; have hk' := (l5.low 16 (by decide)).trans hk'; have vm := (l5.low 372 (by decide)).trans vm; have w2_ := (l5.low 374 (by decide)).trans w2_; have w3_ := (l5.low 375 (by decide)).trans w3_
    refine ix_c (F := fun l a => wpHs (Below w.heap.size w) _ l a) runs_s (d := 377) rfl rfl rfl (by rw [hp.size]; decide) w2_ w3_ (fun w => lb_order.ix ad' n c' i w hi) fun a6 l6 w5_ => ?_
    have hp := hp.lo l6 (by decide); have hc := (l6.low 15 (by decide)).trans hc; have hk' := (l6.low 16 (by decide)).trans hk'; have vm := (l6.low 372 (by decide)).trans vm; have w4_ := (l6.low 376 (by decide)).trans w4_
    refine fa_c (F := fun l a => wpHs (Below w.heap.size w) _ l a) runs_s (d := 378) rfl rfl rfl (by rw [hp.size]; decide) w5_ (fx_order_l _) fun a7 l7 w6_ => ?_
    have hp := hp.lo l7 (by decide); have hc := (l7.low 15 (by decide)).trans hc; have hk' := (l7.low 16 (by decide)).trans hk'; have vm := (l7.low 372 (by decide)).trans vm; have w4_ := (l7.low 376 (by decide)).trans w4_
    refine ix_c (F := fun l a => wpHs (Below w.heap.size w) _ l a) runs_s (d := 379) rfl rfl rfl (by rw [hp.size]; decide) w6_ w4_ (fun w => ix_linesB _ k w hk) fun a8 l8 w7_ => ?_
    have hp := hp.lo l8 (by decide); have hc := (l8.low 15 (by decide)).trans hc; have hk' := (l8.low 16 (by decide)).trans hk'; have vm := (l8.low 372 (by decide)).trans vm
    refine lc_s (u := w) (s := 379) (t := 380) (off := 0) (x := x.drop (2 + 6 * k)) fe_line rfl rfl rfl rfl rfl rfl (by rw [hp.size]; decide) (by rw [addr_add0]; exact w7_) hfy ke hszy hy fun a9 l9 eX => ?_
    have hp := hp.lo l9 (by decide); have hc := (l9.low 15 (by decide)).trans hc; have hk' := (l9.low 16 (by decide)).trans hk'; have vm := (l9.low 372 (by decide)).trans vm
    intro w1 hw1
    have eX : a9.eval (.tmp 381) = .string ⟨(sg x (0 + (2 + 6 * k)) 6).toArray⟩ := by rw [Nat.zero_add, ← Nat.add_zero (2 + 6 * k), ← sg_drop]; exact eX
    have hl2 := sg_len x (0 + (2 + 6 * k)) 6
    refine ap_raw (m := 382) (s := 381) ⟨rfl, rfl, rfl, rfl, rfl, rfl⟩ hp vm eX (hO.later hw1) (by omega) (by decide) (by decide) fun a' w' v' q1 q4 q5 _ => ?_
    rw [List.append_assoc, sg_add] at q5
    exact hQ a' w' ⟨v', q1, q5, (q4 15 (by decide) (by decide)).trans hc, (q4 15 (by decide) (by decide)).trans hc, fun q => absurd q (by decide)⟩ ((q4 16 (by decide) (by decide)).trans hk')
  · intro a w k Q hk s hc hQ
    exact inc_pl (ct := 16) (d := 370) ⟨rfl, rfl, rfl, rfl, ⟨_, rfl⟩, rfl, rfl, rfl, rfl⟩ (by decide) (by rw [s.size]; decide) hc (by omega) fun a' z1 f1 k1 c1 => hQ a' (s.kept z1 f1 (k1 1 (by decide) (by decide)) (k1 3 (by decide) (by decide)) (k1 15 (by decide) (by decide)) (k1 15 (by decide) (by decide))) c1
  intro a2 w2 s
  obtain ⟨v, hp, hO, hc, _, _⟩ := s
  have q5 : OB W (bsJ R 7 i ++ sg x 0 50) v w2 := hO
  rw [sg_all x (n := 50) (fits_len hfx), ← bsJ_succ hx] at q5
  exact hQ a2 w2 v hp q5 hc
end Go.Proofs.YtgdoodeibcfcjaaGreat.Wire
