/- The reference's Bytes, whole. Printed by breft.py. -/
import Derived.Test.YtgdoodeibcfcjaaGreatBRefM
import Derived.Laws.IdiomStrings
set_option linter.unusedVariables false
set_option linter.unusedSimpArgs false
namespace Go.Proofs.YtgdoodeibcfcjaaGreat.Wire
open Go.RowKit Go.Proofs.YtgdoodeibcfcjaaGreat.NumsPure Go.Proofs.YtgdoodeibcfcjaaGreat.CPure Go.Proofs.YtgdoodeibcfcjaaGreat.Own
open Go.Proofs.YtgdoodeibcfcjaaGreat.Put (digits digits_lt digits_ge)
theorem res_B {a : Act} {w : World} {v : Value} (e2 : a.eval (.tmp 2) = v) : (results Tryz.f9 a.tmps).run Tryz.prog w = .ok v w := by
  have er : Tryz.f9.results = #[.tmp 2] := rfl
  unfold results
  rw [er]
  have e2' : a.tmps[2]?.getD undef = v := by rw [← e2]; simp [Act.eval, Array.getD_eq_getD_getElem?]
  simp [Sem.run_bind, e2']
/-- A string's bytes, in a new row. -/
theorem own_bytes (w : World) (c : List UInt8) (hl : c.length ≤ 140737488355328) : ∃ v w' cur cap fr, (convert 9 106 (.string ⟨c.toArray⟩)).run Tryz.prog w = .ok v w' ∧ Own8 w.heap.size v (Lib.byteCells c) w.heap.size cap cur fr w' ∧ Below w.heap.size w w' := by
  have hr := run_bytes_of_string (P := Tryz.prog) w 9 106 5 ⟨c.toArray⟩ Tryz.underlying9 Tryz.underlying106 Tryz.underlying5
  have hcs : (⟨c.toArray⟩ : ByteArray).size = c.length := size_mk c
  rw [hcs] at hr
  have hge := grownCap_ge w c.length 0 5
  have hcm : grownCap w c.length 0 5 ≤ maxLen := grownCap_le_maxLen w c.length 0 5 (by unfold maxLen; omega)
  have hbl : (Lib.byteCells c).length = c.length := Lib.byteCells_length c
  obtain ⟨cap, hcap⟩ : ∃ cap, cap = grownCap w c.length 0 5 := ⟨_, rfl⟩
  rw [← hcap] at hr hge hcm
  have hsz : (bytesRow ⟨c.toArray⟩ cap).size = cap := by
    unfold bytesRow
    rw [hcs]
    simp
    omega
  refine ⟨_, _, _, cap, _, hr, ⟨by rw [hbl], Nat.le_refl _, heap_alloc_new w.drew _, fun j hj q => ?_, by omega, hcm, hsz, ?_⟩, ?_⟩
  · have := q.1
    simp only at this
    omega
  · unfold bytesRow Lib.byteCells
    simp [List.take_append_of_le_length]
  · exact (Below.refl _ w).drew.trans ((alloc_below w.drew _).mono (Nat.le_refl _))
theorem wpList_val {ops : Array Oper} {Q : Exit → Act → World → Prop} {rest : List Oper} {o : Oper} {a : Act} {w w' : World} {v : Value} {d : Nat} (hg : o.guard = none) (hd : o.dst = some d) (hr : (execOp a.eval o).run Tryz.prog w = .ok (.value v) w') (h : wpList Tryz.prog ops Q rest (a.put (some d) v) w') : wpList Tryz.prog ops Q (o :: rest) a w :=
  wpList_plain hg fun K hK => by
    unfold Oper.wp
    rw [hr, Oper.upon_value, hd]
    exact hK _ _ h
theorem str_8 {B : Nat} {v : Value} {bs : List UInt8} {g cap : Nat} {cur : Array Value} {fr : Nat × Nat} {w : World} (h : Own8 B v (Lib.byteCells bs) g cap cur fr w) : (convert 106 9 v).run Tryz.prog w = .ok (.string ⟨bs.toArray⟩) w := by
  have hbl : (Lib.byteCells bs).length = bs.length := Lib.byteCells_length bs
  rw [h.val, hbl]
  refine run_convert_bytes_back (P := Tryz.prog) w 106 9 5 ⟨g, 0, none⟩ cap bs Tryz.underlying106 Tryz.underlying5 Tryz.underlying9 fun j hj => ?_
  rw [add0B]
  have ht := h.take
  have e : (Lib.byteCells bs)[j]? = some (.int .u8 (bs[j].toNat : Int)) := by simp [Lib.byteCells, List.getElem?_eq_getElem hj]
  rw [← ht, List.getElem?_take, if_pos (by omega)] at e
  simp only [World.cell?, h.heap]
  simpa using e
theorem pB_0 : dropB 0 bodyB = .seq (seqLB (dropB 0 bodyB)) (dropB 1 bodyB) := rfl
theorem pB_1 : dropB 1 bodyB = .seq (seqLB (dropB 1 bodyB)) (dropB 2 bodyB) := rfl
theorem pB_2 : dropB 2 bodyB = .seq (seqLB (dropB 2 bodyB)) (dropB 3 bodyB) := rfl
theorem pB_3 : dropB 3 bodyB = .seq (seqLB (dropB 3 bodyB)) (dropB 4 bodyB) := rfl
theorem pB_4 : dropB 4 bodyB = .seq (seqLB (dropB 4 bodyB)) (dropB 5 bodyB) := rfl
theorem pB_5 : dropB 5 bodyB = .seq (seqLB (dropB 5 bodyB)) (dropB 6 bodyB) := rfl
theorem pB_6 : dropB 6 bodyB = .seq (seqLB (dropB 6 bodyB)) (dropB 7 bodyB) := rfl
theorem pB_7 : dropB 7 bodyB = .seq (seqLB (dropB 7 bodyB)) (dropB 8 bodyB) := rfl
theorem pB_8 : dropB 8 bodyB = .seq (seqLB (dropB 8 bodyB)) (dropB 9 bodyB) := rfl
theorem pB_9 : dropB 9 bodyB = .seq (seqLB (dropB 9 bodyB)) (dropB 10 bodyB) := rfl
theorem pB_10 : dropB 10 bodyB = .seq (seqLB (dropB 10 bodyB)) (dropB 11 bodyB) := rfl
theorem pB_11 : dropB 11 bodyB = .seq (seqLB (dropB 11 bodyB)) (dropB 12 bodyB) := rfl
theorem pB_12 : dropB 12 bodyB = .seq (seqLB (dropB 12 bodyB)) (dropB 13 bodyB) := rfl
theorem pB_13 : dropB 13 bodyB = .seq (seqLB (dropB 13 bodyB)) (dropB 14 bodyB) := rfl
theorem pB_14 : dropB 14 bodyB = .seq (seqLB (dropB 14 bodyB)) (dropB 15 bodyB) := rfl
theorem pB_15 : dropB 15 bodyB = .seq (seqLB (dropB 15 bodyB)) (dropB 16 bodyB) := rfl
theorem pB_16 : dropB 16 bodyB = .seq (seqLB (dropB 16 bodyB)) (dropB 17 bodyB) := rfl
theorem pB_17 : dropB 17 bodyB = .seq (seqLB (dropB 17 bodyB)) (dropB 18 bodyB) := rfl
theorem pB_18 : dropB 18 bodyB = .seq (seqLB (dropB 18 bodyB)) (dropB 19 bodyB) := rfl
theorem pB_19 : dropB 19 bodyB = .seq (seqLB (dropB 19 bodyB)) (dropB 20 bodyB) := rfl
theorem pB_20 : dropB 20 bodyB = .seq (seqLB (dropB 20 bodyB)) (dropB 21 bodyB) := rfl
theorem pB_21 : dropB 21 bodyB = .seq (seqLB (dropB 21 bodyB)) (dropB 22 bodyB) := rfl
theorem pB_22 : dropB 22 bodyB = .seq (seqLB (dropB 22 bodyB)) (dropB 23 bodyB) := rfl
theorem pB_23 : dropB 23 bodyB = .seq (seqLB (dropB 23 bodyB)) (dropB 24 bodyB) := rfl
theorem pB_24 : dropB 24 bodyB = .seq (seqLB (dropB 24 bodyB)) (dropB 25 bodyB) := rfl
theorem pB_25 : dropB 25 bodyB = .seq (seqLB (dropB 25 bodyB)) (dropB 26 bodyB) := rfl
theorem pB_26 : dropB 26 bodyB = .seq (seqLB (dropB 26 bodyB)) (dropB 27 bodyB) := rfl
theorem pB_27 : dropB 27 bodyB = .seq (seqLB (dropB 27 bodyB)) (dropB 28 bodyB) := rfl
theorem pB_28 : dropB 28 bodyB = .seq (seqLB (dropB 28 bodyB)) (dropB 29 bodyB) := rfl
theorem pB_29 : dropB 29 bodyB = .seq (seqLB (dropB 29 bodyB)) (dropB 30 bodyB) := rfl
theorem pB_30 : dropB 30 bodyB = .seq (seqLB (dropB 30 bodyB)) (dropB 31 bodyB) := rfl
set_option maxRecDepth 100000 in
theorem ct_lot {W : World} {hb : Nat} {vs : List Value} {R : Nat → List (List Value)} {z : Int} (hH : HW W hb vs R z) {a : Act} {w : World} {Q : Exit → Act → World → Prop} (h0 : LB W hb (encTo R 1) a w) (h : ∀ a' w', LB W hb (encTo R 1 ++ digits (R 1).length) a' w' → Q .normal a' w') : (partB 3).wp Tryz.prog Q a w :=
  ct_region (d := 89) ⟨rfl, rfl, rfl, ⟨rfl, rfl, rfl, rfl, rfl, rfl, rfl, rfl, rfl⟩, rfl, ⟨_, rfl⟩, rfl, ⟨rfl, rfl, rfl, rfl, rfl, rfl⟩⟩ (by decide) (by decide) (by decide) lb_lot Tryz.underlying23 hH h0 h
set_option maxRecDepth 100000 in
theorem ct_zone {W : World} {hb : Nat} {vs : List Value} {R : Nat → List (List Value)} {z : Int} (hH : HW W hb vs R z) {a : Act} {w : World} {Q : Exit → Act → World → Prop} (h0 : LB W hb (encTo R 2) a w) (h : ∀ a' w', LB W hb (encTo R 2 ++ digits (R 2).length) a' w' → Q .normal a' w') : (partB 5).wp Tryz.prog Q a w :=
  ct_region (d := 127) ⟨rfl, rfl, rfl, ⟨rfl, rfl, rfl, rfl, rfl, rfl, rfl, rfl, rfl⟩, rfl, ⟨_, rfl⟩, rfl, ⟨rfl, rfl, rfl, rfl, rfl, rfl⟩⟩ (by decide) (by decide) (by decide) lb_zone Tryz.underlying24 hH h0 h
set_option maxRecDepth 100000 in
theorem ct_bin {W : World} {hb : Nat} {vs : List Value} {R : Nat → List (List Value)} {z : Int} (hH : HW W hb vs R z) {a : Act} {w : World} {Q : Exit → Act → World → Prop} (h0 : LB W hb (encTo R 3) a w) (h : ∀ a' w', LB W hb (encTo R 3 ++ digits (R 3).length) a' w' → Q .normal a' w') : (partB 7).wp Tryz.prog Q a w :=
  ct_region (d := 157) ⟨rfl, rfl, rfl, ⟨rfl, rfl, rfl, rfl, rfl, rfl, rfl, rfl, rfl⟩, rfl, ⟨_, rfl⟩, rfl, ⟨rfl, rfl, rfl, rfl, rfl, rfl⟩⟩ (by decide) (by decide) (by decide) lb_bin Tryz.underlying25 hH h0 h
set_option maxRecDepth 100000 in
theorem ct_quant {W : World} {hb : Nat} {vs : List Value} {R : Nat → List (List Value)} {z : Int} (hH : HW W hb vs R z) {a : Act} {w : World} {Q : Exit → Act → World → Prop} (h0 : LB W hb (encTo R 4) a w) (h : ∀ a' w', LB W hb (encTo R 4 ++ digits (R 4).length) a' w' → Q .normal a' w') : (partB 9).wp Tryz.prog Q a w :=
  ct_region (d := 208) ⟨rfl, rfl, rfl, ⟨rfl, rfl, rfl, rfl, rfl, rfl, rfl, rfl, rfl⟩, rfl, ⟨_, rfl⟩, rfl, ⟨rfl, rfl, rfl, rfl, rfl, rfl⟩⟩ (by decide) (by decide) (by decide) lb_quant Tryz.underlying26 hH h0 h
set_option maxRecDepth 100000 in
theorem ct_rule {W : World} {hb : Nat} {vs : List Value} {R : Nat → List (List Value)} {z : Int} (hH : HW W hb vs R z) {a : Act} {w : World} {Q : Exit → Act → World → Prop} (h0 : LB W hb (encTo R 5) a w) (h : ∀ a' w', LB W hb (encTo R 5 ++ digits (R 5).length) a' w' → Q .normal a' w') : (partB 11).wp Tryz.prog Q a w :=
  ct_region (d := 246) ⟨rfl, rfl, rfl, ⟨rfl, rfl, rfl, rfl, rfl, rfl, rfl, rfl, rfl⟩, rfl, ⟨_, rfl⟩, rfl, ⟨rfl, rfl, rfl, rfl, rfl, rfl⟩⟩ (by decide) (by decide) (by decide) lb_rule Tryz.underlying27 hH h0 h
set_option maxRecDepth 100000 in
theorem ct_notice {W : World} {hb : Nat} {vs : List Value} {R : Nat → List (List Value)} {z : Int} (hH : HW W hb vs R z) {a : Act} {w : World} {Q : Exit → Act → World → Prop} (h0 : LB W hb (encTo R 6) a w) (h : ∀ a' w', LB W hb (encTo R 6 ++ digits (R 6).length) a' w' → Q .normal a' w') : (partB 13).wp Tryz.prog Q a w :=
  ct_region (d := 284) ⟨rfl, rfl, rfl, ⟨rfl, rfl, rfl, rfl, rfl, rfl, rfl, rfl, rfl⟩, rfl, ⟨_, rfl⟩, rfl, ⟨rfl, rfl, rfl, rfl, rfl, rfl⟩⟩ (by decide) (by decide) (by decide) lb_notice Tryz.underlying28 hH h0 h
set_option maxRecDepth 100000 in
theorem ct_order {W : World} {hb : Nat} {vs : List Value} {R : Nat → List (List Value)} {z : Int} (hH : HW W hb vs R z) {a : Act} {w : World} {Q : Exit → Act → World → Prop} (h0 : LB W hb (encTo R 7) a w) (h : ∀ a' w', LB W hb (encTo R 7 ++ digits (R 7).length) a' w' → Q .normal a' w') : (partB 15).wp Tryz.prog Q a w :=
  ct_region (d := 338) ⟨rfl, rfl, rfl, ⟨rfl, rfl, rfl, rfl, rfl, rfl, rfl, rfl, rfl⟩, rfl, ⟨_, rfl⟩, rfl, ⟨rfl, rfl, rfl, rfl, rfl, rfl⟩⟩ (by decide) (by decide) (by decide) lb_order Tryz.underlying29 hH h0 h
set_option maxRecDepth 100000 in
theorem ct_claim {W : World} {hb : Nat} {vs : List Value} {R : Nat → List (List Value)} {z : Int} (hH : HW W hb vs R z) {a : Act} {w : World} {Q : Exit → Act → World → Prop} (h0 : LB W hb (encTo R 8) a w) (h : ∀ a' w', LB W hb (encTo R 8 ++ digits (R 8).length) a' w' → Q .normal a' w') : (partB 17).wp Tryz.prog Q a w :=
  ct_region (d := 383) ⟨rfl, rfl, rfl, ⟨rfl, rfl, rfl, rfl, rfl, rfl, rfl, rfl, rfl⟩, rfl, ⟨_, rfl⟩, rfl, ⟨rfl, rfl, rfl, rfl, rfl, rfl⟩⟩ (by decide) (by decide) (by decide) lb_claim Tryz.underlying30 hH h0 h
set_option maxRecDepth 100000 in
theorem ct_task {W : World} {hb : Nat} {vs : List Value} {R : Nat → List (List Value)} {z : Int} (hH : HW W hb vs R z) {a : Act} {w : World} {Q : Exit → Act → World → Prop} (h0 : LB W hb (encTo R 9) a w) (h : ∀ a' w', LB W hb (encTo R 9 ++ digits (R 9).length) a' w' → Q .normal a' w') : (partB 19).wp Tryz.prog Q a w :=
  ct_region (d := 422) ⟨rfl, rfl, rfl, ⟨rfl, rfl, rfl, rfl, rfl, rfl, rfl, rfl, rfl⟩, rfl, ⟨_, rfl⟩, rfl, ⟨rfl, rfl, rfl, rfl, rfl, rfl⟩⟩ (by decide) (by decide) (by decide) lb_task Tryz.underlying31 hH h0 h
set_option maxRecDepth 100000 in
theorem ct_parcel {W : World} {hb : Nat} {vs : List Value} {R : Nat → List (List Value)} {z : Int} (hH : HW W hb vs R z) {a : Act} {w : World} {Q : Exit → Act → World → Prop} (h0 : LB W hb (encTo R 10) a w) (h : ∀ a' w', LB W hb (encTo R 10 ++ digits (R 10).length) a' w' → Q .normal a' w') : (partB 21).wp Tryz.prog Q a w :=
  ct_region (d := 473) ⟨rfl, rfl, rfl, ⟨rfl, rfl, rfl, rfl, rfl, rfl, rfl, rfl, rfl⟩, rfl, ⟨_, rfl⟩, rfl, ⟨rfl, rfl, rfl, rfl, rfl, rfl⟩⟩ (by decide) (by decide) (by decide) lb_parcel Tryz.underlying32 hH h0 h
set_option maxRecDepth 100000 in
theorem ct_sent {W : World} {hb : Nat} {vs : List Value} {R : Nat → List (List Value)} {z : Int} (hH : HW W hb vs R z) {a : Act} {w : World} {Q : Exit → Act → World → Prop} (h0 : LB W hb (encTo R 11) a w) (h : ∀ a' w', LB W hb (encTo R 11 ++ digits (R 11).length) a' w' → Q .normal a' w') : (partB 23).wp Tryz.prog Q a w :=
  ct_region (d := 503) ⟨rfl, rfl, rfl, ⟨rfl, rfl, rfl, rfl, rfl, rfl, rfl, rfl, rfl⟩, rfl, ⟨_, rfl⟩, rfl, ⟨rfl, rfl, rfl, rfl, rfl, rfl⟩⟩ (by decide) (by decide) (by decide) lb_sent Tryz.underlying33 hH h0 h
set_option maxRecDepth 100000 in
theorem ct_counted {W : World} {hb : Nat} {vs : List Value} {R : Nat → List (List Value)} {z : Int} (hH : HW W hb vs R z) {a : Act} {w : World} {Q : Exit → Act → World → Prop} (h0 : LB W hb (encTo R 12) a w) (h : ∀ a' w', LB W hb (encTo R 12 ++ digits (R 12).length) a' w' → Q .normal a' w') : (partB 25).wp Tryz.prog Q a w :=
  ct_region (d := 542) ⟨rfl, rfl, rfl, ⟨rfl, rfl, rfl, rfl, rfl, rfl, rfl, rfl, rfl⟩, rfl, ⟨_, rfl⟩, rfl, ⟨rfl, rfl, rfl, rfl, rfl, rfl⟩⟩ (by decide) (by decide) (by decide) lb_counted Tryz.underlying34 hH h0 h
set_option maxRecDepth 100000 in
theorem ct_total {W : World} {hb : Nat} {vs : List Value} {R : Nat → List (List Value)} {z : Int} (hH : HW W hb vs R z) {a : Act} {w : World} {Q : Exit → Act → World → Prop} (h0 : LB W hb (encTo R 13) a w) (h : ∀ a' w', LB W hb (encTo R 13 ++ digits (R 13).length) a' w' → Q .normal a' w') : (partB 27).wp Tryz.prog Q a w :=
  ct_region (d := 572) ⟨rfl, rfl, rfl, ⟨rfl, rfl, rfl, rfl, rfl, rfl, rfl, rfl, rfl⟩, rfl, ⟨_, rfl⟩, rfl, ⟨rfl, rfl, rfl, rfl, rfl, rfl⟩⟩ (by decide) (by decide) (by decide) lb_total Tryz.underlying35 hH h0 h
theorem fx_house_14 (b : Addr) (w : World) : (Instr.fieldAt 37 (.pointer (some b)) 14).run Tryz.prog w = .ok (.pointer (some (b.add 14))) w := by simp [go_sem]
set_option maxHeartbeats 4000000 in
set_option maxRecDepth 100000 in
theorem bytes_end {W : World} {hb : Nat} {vs : List Value} {R : Nat → List (List Value)} {z : Int} (hH : HW W hb vs R z) {a : Act} {w u : World} (hu : Below u.heap.size u W) (h0 : LB W hb (encTo R 14) a w) : (dropB 29 bodyB).wp Tryz.prog (bodyPost Tryz.prog Tryz.f9 fun e w' => e = .returned (.string ⟨(encHouse R z).toArray⟩) ∧ Below u.heap.size u w') a w := by
  obtain ⟨v, hp, hO⟩ := h0
  have hle := encTo_house R z (j := 14) (by omega)
  have hln := hH.len
  have hdl : (digits (foldN z)).length ≤ 10 := digits_le 9 _ (by have := foldN_lt z; omega)
  rw [pB_29]
  refine wp_seq ?_
  show Code.wp _ (Code.region _ _ _) _ a w
  refine wp_region_list ?_
  refine sure_list (S := Below w.heap.size w) [_, _, _, _] a w (Below.refl _ _) ?_
  show wpHs _ _ [_, _, _, _] a
  refine mv_c (F := fun l a => wpHs (Below w.heap.size w) _ l a) runs_s (d := 615) rfl rfl rfl (by rw [hp.size]; decide) hp.s3 fun a1 l1 vm => ?_
  have hp := hp.lo l1 (by decide)
  refine fa_c (F := fun l a => wpHs (Below w.heap.size w) _ l a) runs_s (d := 616) rfl rfl rfl (by rw [hp.size]; decide) hp.s1 (fx_house_14 _) fun a2 l2 v2 => ?_
  have hp := hp.lo l2 (by decide); have vm := (l2.low 615 (by decide)).trans vm
  have hc : ∀ m y, ([Value.int .i64 z] : List Value)[m]? = some y → ∀ w1, Below w.heap.size w w1 → w1.cell? ((⟨hb, 14, none⟩ : Addr).add m) = some y := fun m y hy w1 hw => by
    have hm : m = 0 := by
      have := (List.getElem?_eq_some_iff.1 hy).1
      simpa using this
    subst hm
    obtain rfl : Value.int .i64 z = y := by simpa using hy
    rw [addr_add0, hw.cell (p := ⟨hb, 14, none⟩) (Nat.lt_of_lt_of_le hH.cs.lt hO.below.size), hO.below.cell (p := ⟨hb, 14, none⟩) hH.cs.lt, hH.cs.cell]
    exact hH.ha.num
  have hfz : Fits [K.n] [Value.int .i64 z] := ⟨_, [], rfl, ⟨z, rfl⟩, rfl⟩
  refine lc_s (u := w) (s := 616) (t := 617) (b := ⟨hb, 14, none⟩) (off := 0) (x := [.int .i64 z]) fe_n rfl rfl rfl rfl rfl rfl (by rw [hp.size]; decide) (by rw [addr_add0]; rw [add0B] at v2; exact v2) hfz rfl (fun v hv => by rw [List.mem_singleton.1 hv]; trivial) hc fun a3 l3 eX => ?_
  have hp := hp.lo l3 (by decide); have vm := (l3.low 615 (by decide)).trans vm
  have eX : a3.eval (.tmp 618) = .string ⟨(digits (foldN z)).toArray⟩ := by
    have e : sg [Value.int .i64 z] 0 [K.n].length = digits (foldN z) := by simp [sg, encs, encV]
    rw [← e]; exact eX
  intro w1 hw1
  refine ap_raw (m := 619) (s := 618) ⟨rfl, rfl, rfl, rfl, rfl, rfl⟩ hp vm eX (hO.later hw1) (by omega) (by decide) (by decide) fun a' w' v' hp hk hO _ => ?_
  rw [← encHouse_eq] at hO
  show Code.wp _ (dropB 30 bodyB) _ a' w'
  rw [pB_30]
  refine wp_seq (wp_region_list ?_)
  show wpList _ _ _ [_, _, _] a' w'
  obtain ⟨g, cap, cur, fr, hown⟩ := hO.own
  have hcv := str_8 hown
  refine wpList_mv rfl (.tmp 3) (.inl rfl) ?_
  rw [hp.s3]
  have e1 : (a'.put (some 620) v').eval (.tmp 620) = v' := put_same _ (by rw [hp.size]; decide)
  have s1 := (put_size a' (some 620) v').trans hp.size
  have d1 := (put_defers a' (some 620) v').trans hp.defers
  show wpList _ _ _ [_, _] (a'.put (some 620) v') w'
  generalize a'.put (some 620) v' = a4 at e1 s1 d1
  have hbb : Below u.heap.size u w' := hu.trans (hO.below.mono hu.size)
  refine wpList_run rfl (.string ⟨(encHouse R z).toArray⟩) (by unfold execOp; simp only [e1, hcv, Sem.run_bind, Result.andThen_ok, Sem.run_pure]) ?_
  have e2 : (a4.put (some 621) (.string ⟨(encHouse R z).toArray⟩)).eval (.tmp 621) = .string ⟨(encHouse R z).toArray⟩ := put_same _ (by rw [s1]; decide)
  have s2 := (put_size a4 (some 621) (.string ⟨(encHouse R z).toArray⟩)).trans s1
  have d2 := (put_defers a4 (some 621) (.string ⟨(encHouse R z).toArray⟩)).trans d1
  show wpList _ _ _ [_] (a4.put (some 621) (.string ⟨(encHouse R z).toArray⟩)) w'
  generalize a4.put (some 621) (.string ⟨(encHouse R z).toArray⟩) = a5 at e2 s2 d2
  refine wpList_mv rfl (.tmp 621) (.inr rfl) (wpList_nil ?_)
  rw [e2]
  have e3 : (a5.put (some 2) (.string ⟨(encHouse R z).toArray⟩)).eval (.tmp 2) = .string ⟨(encHouse R z).toArray⟩ := put_same _ (by rw [s2]; decide)
  have d3 := (put_defers a5 (some 2) (.string ⟨(encHouse R z).toArray⟩)).trans d2
  show Code.wp _ Code.ret _ (a5.put (some 2) (.string ⟨(encHouse R z).toArray⟩)) w'
  generalize a5.put (some 2) (.string ⟨(encHouse R z).toArray⟩) = a6 at e3 d3
  exact wp_ret ⟨d3, _, res_B e3, rfl, hbb⟩
set_option maxHeartbeats 4000000 in
set_option maxRecDepth 100000 in
theorem rbytes_any {vs : List Value} {R : Nat → List (List Value)} {z : Int} {w : World} (h : HouseA w vs R z) (hl : (encHouse R z).length ≤ 100000000) : Calls Tryz.prog 9 #[.agg vs.toArray] w fun e w' => e = .returned (.string ⟨(encHouse R z).toArray⟩) ∧ Below w.heap.size w w' := by
  refine calls_of_wp (c := dropB 0 bodyB) Tryz.func9 rfl ?_
  obtain ⟨a, ha⟩ : ∃ a : Act, a = { tmps := #[.agg vs.toArray] ++ Array.replicate (Tryz.f9.ntmps - (#[Value.agg vs.toArray] : Array Value).size) undef, defers := [] } := ⟨_, rfl⟩
  rw [← ha]
  have z1 : a.tmps.size = 622 := by rw [ha]; simp [Tryz.ntmps9]
  have z2 : a.defers = [] := by rw [ha]
  have z3 : a.eval (.tmp 0) = .agg vs.toArray := by rw [ha]; simp [Act.eval]
  clear ha
  rw [pB_0]
  refine wp_seq (wp_region_list ?_)
  show wpList _ _ _ [_, _] a w
  refine Great.wpList_allocTo rfl (some 1) rfl _ _ (run_boxB rfl z3 w) ?_
  have v1 : (a.put (some 1) (.pointer (some ⟨w.heap.size, 0, none⟩))).eval (.tmp 1) = .pointer (some ⟨w.heap.size, 0, none⟩) := put_same _ (by rw [z1]; decide)
  have x1 := (put_size a (some 1) (.pointer (some ⟨w.heap.size, 0, none⟩))).trans z1
  have q1 := (put_defers a (some 1) (.pointer (some ⟨w.heap.size, 0, none⟩))).trans z2
  generalize a.put (some 1) (.pointer (some ⟨w.heap.size, 0, none⟩)) = a1 at v1 x1 q1
  refine wpList_mv rfl (.const (.string ⟨#[]⟩)) (.inr rfl) (wpList_nil ?_)
  have v2 : (a1.put (some 2) (a1.eval (.const (.string ⟨#[]⟩)))).eval (.tmp 1) = .pointer (some ⟨w.heap.size, 0, none⟩) := (put_other _ (by decide)).trans v1
  have x2 := (put_size a1 (some 2) (a1.eval (.const (.string ⟨#[]⟩)))).trans x1
  have q2 := (put_defers a1 (some 2) (a1.eval (.const (.string ⟨#[]⟩)))).trans q1
  show Code.wp _ (dropB 1 bodyB) _ (a1.put (some 2) (a1.eval (.const (.string ⟨#[]⟩)))) _
  generalize a1.put (some 2) (a1.eval (.const (.string ⟨#[]⟩))) = a2 at v2 x2 q2
  obtain ⟨W, hW⟩ : ∃ W, W = w.alloc (.cells vs.toArray 37) := ⟨_, rfl⟩
  have hB : Below w.heap.size w W := by rw [hW]; exact alloc_below _ _
  have hcs : Cs w.heap.size 37 vs W := by rw [hW]; exact cs_alloc _ _ _ _ rfl
  rw [← hW]
  clear hW
  have hH : HW W w.heap.size vs R z := ⟨hcs, h.below hB, hl⟩
  obtain ⟨A, c, hcell, hr⟩ := hH.at (Below.refl _ W) (by decide : 0 < 14)
  have hf := hH.few (by decide : 0 < 14)
  have hle := encTo_house R z (j := 1) (by omega)
  have hdl : (digits (R 0).length).length ≤ (encTo R 1).length := by simp only [encTo, encRows, List.length_append]; omega
  have e0 : encTo R 0 ++ digits (R 0).length = digits (R 0).length := rfl
  obtain ⟨n, hn⟩ : ∃ n, n = (R 0).length := ⟨_, rfl⟩
  rw [← hn] at hcell hf hdl e0
  obtain ⟨hb, hhb⟩ : ∃ hb, hb = w.heap.size := ⟨_, rfl⟩
  rw [← hhb] at hcell hH v2
  rw [pB_1]
  refine wp_seq (wp_region_list ?_)
  refine sure_list (S := Below W.heap.size W) [_, _, _, _] a2 W (Below.refl _ _) ?_
  show wpHs _ _ [_, _, _, _] a2
  refine out (F := fun l a => wpHs (Below W.heap.size W) _ l a) runs_s (d := 27) rfl rfl (by rw [x2]; decide) (.pointer (some ⟨hb, 0, none⟩)) (fun w _ => by unfold execOp; simp only [v2, Sem.run_bind, lb_item.fa, Result.andThen_ok, Sem.run_pure]) fun a3 l3 v3 => ?_
  refine ld_c (F := fun l a => wpHs (Below W.heap.size W) _ l a) runs_s (d := 28) rfl rfl rfl (by rw [l3.size, x2]; decide) v3 lb_item.ag (fun w1 hw => by rw [hw.cell (p := ⟨hb, 0, none⟩) hH.cs.lt]; exact hcell) fun a4 l4 v4 => ?_
  have q4 : a4.tmps[28]?.getD undef = .slice A n c := by rw [← v4]; simp [Act.eval, Array.getD_eq_getD_getElem?]
  refine out (F := fun l a => wpHs (Below W.heap.size W) _ l a) runs_s (d := 29) rfl rfl (by rw [l4.size, l3.size, x2]; decide) (.int .i64 (n : Int)) (fun w _ => by unfold execOp; simp [go_sem, q4, len_at Tryz.underlying22]) fun a5 l5 v5 => ?_
  refine call_s (u := W) (d := 30) rfl rfl rfl (by rw [l5.size, l4.size, l3.size, x2]; decide) v5 (cf_countB _) (fun w1 => rcount_any n (by omega) w1) fun a6 l6 v6 => ?_
  have z6 : a6.tmps.size = 622 := by rw [l6.size, l5.size, l4.size, l3.size, x2]
  have d6 : a6.defers = [] := by rw [l6.defers, l5.defers, l4.defers, l3.defers, q2]
  have p6 : a6.eval (.tmp 1) = .pointer (some ⟨hb, 0, none⟩) := (l6.low 1 (by decide)).trans ((l5.low 1 (by decide)).trans ((l4.low 1 (by decide)).trans ((l3.low 1 (by decide)).trans v2)))
  intro w1 hw1
  show wpList _ _ _ [_, _] a6 w1
  obtain ⟨v', w', cur, cap, fr, hcv, hown, hbw⟩ := own_bytes w1 (digits n) (by omega)
  refine wpList_val (v := v') (w' := w') (d := 31) rfl rfl (by unfold execOp; simp only [v6, hcv, Sem.run_bind, Result.andThen_ok, Sem.run_pure]) ?_
  have e7 : (a6.put (some 31) v').eval (.tmp 31) = v' := put_same _ (by rw [z6]; decide)
  have p7 : (a6.put (some 31) v').eval (.tmp 1) = .pointer (some ⟨hb, 0, none⟩) := (put_other _ (by decide)).trans p6
  have z7 := (put_size a6 (some 31) v').trans z6
  have d7 := (put_defers a6 (some 31) v').trans d6
  generalize a6.put (some 31) v' = a7 at e7 p7 z7 d7
  refine wpList_mv rfl (.tmp 31) (.inr rfl) (wpList_nil ?_)
  rw [e7]
  have e8 : (a7.put (some 3) v').eval (.tmp 3) = v' := put_same _ (by rw [z7]; decide)
  have p8 : (a7.put (some 3) v').eval (.tmp 1) = .pointer (some ⟨hb, 0, none⟩) := (put_other _ (by decide)).trans p7
  have z8 := (put_size a7 (some 3) v').trans z7
  have d8 := (put_defers a7 (some 3) v').trans d7
  show Code.wp _ (dropB 2 bodyB) _ (a7.put (some 3) v') w'
  generalize a7.put (some 3) v' = a8 at e8 p8 z8 d8
  have h0 : LB W hb (encTo R 0 ++ digits (R 0).length) a8 w' := by
    rw [← hn, e0]
    exact ⟨v', ⟨z8, d8, p8, e8⟩, ⟨⟨_, cap, cur, fr, hown.val, Nat.le_trans hw1.size hown.base, hown.heap, hown.free, hown.cap_, hown.max_, hown.size, hown.take⟩, hw1.trans (hbw.mono hw1.size)⟩⟩
  clear e8 p8 z8 d8 e7 p7 z7 d7 hown hcv hbw
  have hB : Below w.heap.size w W := hB
  rw [pB_2]
  refine wp_seq (bl_item hH h0 fun b0 y0 h0 => ?_)
  show Code.wp _ (dropB 3 bodyB) _ b0 y0
  rw [pB_3]
  refine wp_seq (ct_lot hH h0 fun c1 x1 h0 => ?_)
  show Code.wp _ (dropB 4 bodyB) _ c1 x1
  rw [pB_4]
  refine wp_seq (bl_lot hH h0 fun b1 y1 h0 => ?_)
  show Code.wp _ (dropB 5 bodyB) _ b1 y1
  rw [pB_5]
  refine wp_seq (ct_zone hH h0 fun c2 x2 h0 => ?_)
  show Code.wp _ (dropB 6 bodyB) _ c2 x2
  rw [pB_6]
  refine wp_seq (bl_zone hH h0 fun b2 y2 h0 => ?_)
  show Code.wp _ (dropB 7 bodyB) _ b2 y2
  rw [pB_7]
  refine wp_seq (ct_bin hH h0 fun c3 x3 h0 => ?_)
  show Code.wp _ (dropB 8 bodyB) _ c3 x3
  rw [pB_8]
  refine wp_seq (bl_bin hH h0 fun b3 y3 h0 => ?_)
  show Code.wp _ (dropB 9 bodyB) _ b3 y3
  rw [pB_9]
  refine wp_seq (ct_quant hH h0 fun c4 x4 h0 => ?_)
  show Code.wp _ (dropB 10 bodyB) _ c4 x4
  rw [pB_10]
  refine wp_seq (bl_quant hH h0 fun b4 y4 h0 => ?_)
  show Code.wp _ (dropB 11 bodyB) _ b4 y4
  rw [pB_11]
  refine wp_seq (ct_rule hH h0 fun c5 x5 h0 => ?_)
  show Code.wp _ (dropB 12 bodyB) _ c5 x5
  rw [pB_12]
  refine wp_seq (bl_rule hH h0 fun b5 y5 h0 => ?_)
  show Code.wp _ (dropB 13 bodyB) _ b5 y5
  rw [pB_13]
  refine wp_seq (ct_notice hH h0 fun c6 x6 h0 => ?_)
  show Code.wp _ (dropB 14 bodyB) _ c6 x6
  rw [pB_14]
  refine wp_seq (bl_notice hH h0 fun b6 y6 h0 => ?_)
  show Code.wp _ (dropB 15 bodyB) _ b6 y6
  rw [pB_15]
  refine wp_seq (ct_order hH h0 fun c7 x7 h0 => ?_)
  show Code.wp _ (dropB 16 bodyB) _ c7 x7
  rw [pB_16]
  refine wp_seq (bl_order hH h0 fun b7 y7 h0 => ?_)
  show Code.wp _ (dropB 17 bodyB) _ b7 y7
  rw [pB_17]
  refine wp_seq (ct_claim hH h0 fun c8 x8 h0 => ?_)
  show Code.wp _ (dropB 18 bodyB) _ c8 x8
  rw [pB_18]
  refine wp_seq (bl_claim hH h0 fun b8 y8 h0 => ?_)
  show Code.wp _ (dropB 19 bodyB) _ b8 y8
  rw [pB_19]
  refine wp_seq (ct_task hH h0 fun c9 x9 h0 => ?_)
  show Code.wp _ (dropB 20 bodyB) _ c9 x9
  rw [pB_20]
  refine wp_seq (bl_task hH h0 fun b9 y9 h0 => ?_)
  show Code.wp _ (dropB 21 bodyB) _ b9 y9
  rw [pB_21]
  refine wp_seq (ct_parcel hH h0 fun c10 x10 h0 => ?_)
  show Code.wp _ (dropB 22 bodyB) _ c10 x10
  rw [pB_22]
  refine wp_seq (bl_parcel hH h0 fun b10 y10 h0 => ?_)
  show Code.wp _ (dropB 23 bodyB) _ b10 y10
  rw [pB_23]
  refine wp_seq (ct_sent hH h0 fun c11 x11 h0 => ?_)
  show Code.wp _ (dropB 24 bodyB) _ c11 x11
  rw [pB_24]
  refine wp_seq (bl_sent hH h0 fun b11 y11 h0 => ?_)
  show Code.wp _ (dropB 25 bodyB) _ b11 y11
  rw [pB_25]
  refine wp_seq (ct_counted hH h0 fun c12 x12 h0 => ?_)
  show Code.wp _ (dropB 26 bodyB) _ c12 x12
  rw [pB_26]
  refine wp_seq (bl_counted hH h0 fun b12 y12 h0 => ?_)
  show Code.wp _ (dropB 27 bodyB) _ b12 y12
  rw [pB_27]
  refine wp_seq (ct_total hH h0 fun c13 x13 h0 => ?_)
  show Code.wp _ (dropB 28 bodyB) _ c13 x13
  rw [pB_28]
  refine wp_seq (bl_total hH h0 fun b13 y13 h0 => ?_)
  show Code.wp _ (dropB 29 bodyB) _ b13 y13
  exact bytes_end hH hB h0
end Go.Proofs.YtgdoodeibcfcjaaGreat.Wire
