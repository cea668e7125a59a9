/- Instances of the codec's generic list, walked in both modes: item, bin, quant, claim, task. Printed by clist.py. -/
import Derived.Test.YtgdoodeibcfcjaaGreatCList
set_option linter.unusedVariables false
set_option linter.unusedSimpArgs false
namespace Go.Proofs.YtgdoodeibcfcjaaGreat.Wire
open Go.RowKit Go.Proofs.YtgdoodeibcfcjaaGreat.NumsPure Go.Proofs.YtgdoodeibcfcjaaGreat.CPure Go.Proofs.YtgdoodeibcfcjaaGreat.Own
open Go.Proofs.YtgdoodeibcfcjaaGreat.Put (digits digits_lt digits_ge)
open Go.Proofs.YtgdoodeibcfcjaaGreat.BldS (Keeps)
/-! ### list: item -/
def ks_item : List K := [.t, .t, .n, .t, .n, .t, .n, .t, .n, .n, .n, .b, .b, .b]
theorem sc_item_all : sc_item = scOf 0 ks_item := by rfl
theorem size_item : (Tryz.prog.info? 59).map (·.size) = some 14 := by kernel_rfl
theorem info_item : (Tryz.prog.info? 59).map (fun i => (i.zero, i.size, i.bytes)) = some (some (.agg #[.string ⟨#[]⟩, .string ⟨#[]⟩, .int .i64 0, .string ⟨#[]⟩, .int .i64 0, .string ⟨#[]⟩, .int .i64 0, .string ⟨#[]⟩, .int .i64 0, .int .i64 0, .int .i64 0, .bool false, .bool false, .bool false]), 14, 136) := by kernel_rfl
set_option maxHeartbeats 8000000 in
set_option maxRecDepth 100000 in
theorem list_item_w {B wb bb hb j c : Nat} {A : Option Addr} {bs : List UInt8} {rows : List (List Value)} {w : World} (h : Wr B wb bb bs w) (hc : w.cell? ⟨hb, j, none⟩ = some (.slice A rows.length c)) (hst : Stay B bb w hb) (hr : RowsAt B bb w A 14 rows)
    (hf : ∀ x ∈ rows, Fits ks_item x) (hn : rows.length ≤ c) (hn2 : rows.length ≤ 100000000) (hl : bs.length + (encRows rows).length ≤ 140737488355328) :
    Calls Tryz.prog 54 #[.pointer (some ⟨wb, 0, none⟩), .pointer (some ⟨hb, j, none⟩), .func (.func 55) #[] #[]] w (Writ B wb bb (bs ++ encRows rows) w) := by
  obtain ⟨n, hnn⟩ : ∃ n, n = rows.length := ⟨_, rfl⟩
  rw [← hnn] at hc hn hn2
  have HN := Aside0.mk hnn
  have H := Aside0.mk h
  have HST := Aside0.mk hst
  have HR := Aside0.mk hr
  have HF := Aside0.mk hf
  have HL : Aside0 (bs.length + (digits n).length + (rows.flatMap encs).length ≤ 140737488355328) := ⟨by unfold encRows at hl; rw [List.length_append, ← hnn] at hl; omega⟩
  have hwc := h.out
  have HC := Aside0.mk hc
  clear h hst hr hf hl hnn
  go_enter Tryz.func54, Tryz.ntmps54
  go_upto_region 1 with (fail)
  go_region_held3 (fun w' => w'.cell? ⟨wb, 0, none⟩ = some (.pointer (some ⟨bb, 0, none⟩)) ∧ w'.cell? ⟨hb, j, none⟩ = some (.slice A n c)) (first | (go_split_ands; assumption) | (refine ⟨?_, ?_⟩ <;> assumption) | go_keep) (first
    | (go_at_call 94; refine (put_any n (by omega) _ _ (by simp)).mono ?_; rintro e wB ⟨rfl, hk⟩; have hk' : Below w.heap.size w wB := ((alloc_below w _).trans (⟨hk.os, hk.tape, hk.output, hk.size, fun i hi => hk.block i (by simp; omega)⟩ : Below w.heap.size (w.alloc _) wB)); have HB : Aside0 (Wr B wb bb bs wB ∧ Wk B bb w wB) := ⟨H.out.below hk', Wk.of_below H.out.le hk'⟩; clear hk hk'; have g0 := HB.out.1.out; have g1 : wB.cell? ⟨hb, j, none⟩ = some (.slice A n c) := by rw [Stay.cell HST.out HB.out.2]; exact HC.out)
    | (go_at_call 93; refine (HB.out.1.write (digits n) (by have := HL.out; omega)).mono ?_; rintro e wC ⟨⟨z', rfl⟩, hk1, hk2⟩; have HCC : Aside0 (Wr B wb bb (bs ++ digits n) wC ∧ Wk B bb w wC) := ⟨hk1, HB.out.2.trans hk2⟩; clear hk1 hk2; have k0 := HCC.out.1.out; have k1 : wC.cell? ⟨hb, j, none⟩ = some (.slice A n c) := by rw [Stay.cell HST.out HCC.out.2]; exact HC.out)
    | fail)
  go_wp2_with (fail)
  go_loopw [31] (fun v31 wr => ∃ i : Nat, i ≤ n ∧ v31 = .int .i64 i ∧ Aside0 (Wr B wb bb (bs ++ digits n ++ (rows.take i).flatMap encs) wr ∧ Wk B bb w wr)) (fun v31 _ => n - (intOf v31).toNat)
  case atStart => exact ⟨0, by omega, rfl, ⟨by simpa using HCC.out.1, HCC.out.2⟩⟩
  case round =>
    obtain ⟨i, hi, rfl, HI⟩ := hrel
    clear g0 g1 k0 k1 HB HCC
    by_cases hlt : i < n
    · have hil : i < rows.length := by have := HN.out; omega
      obtain ⟨x, hx⟩ : ∃ x, rows[i]? = some x := ⟨_, List.getElem?_eq_getElem hil⟩
      have hxf := HF.out x (List.mem_of_getElem? hx)
      obtain ⟨ad, rfl, hsa, hca⟩ := (HR.out.next HI.out.2).at_ (by omega)
      have hcx := hca i x hx
      have hxl : x.length = 14 := fits_len hxf
      have HE : Aside0 ((rows.take (i + 1)).flatMap encs = (rows.take i).flatMap encs ++ encs x) := ⟨rows_take rows i x hx⟩
      have HLX : Aside0 ((bs ++ digits n ++ (rows.take i).flatMap encs).length + (encs x).length ≤ 140737488355328) := ⟨by
        have h1 := HL.out
        have h2 := rows_le rows (i + 1)
        rw [HE.out, List.length_append] at h2
        simp only [List.length_append]; omega⟩
      have HXF := Aside0.mk hxf
      have HXL := Aside0.mk hxl
      have HCX : Aside0 (∀ m v, x[m]? = some v → wr.cell? ((ad.add (i * 14)).add m) = some v) := ⟨fun m v hv => by rw [add_of_add]; exact hcx m v hv⟩
      have HX1 : Aside0 (x.toArray.all (·.oneCell') = true) := ⟨all_oneCell_toArray (fits_one hxf)⟩
      clear hx hxf hsa hca hcx hxl
      go_wp2_with (first
        | ((with_reducible refine wpList_load_at (op := ⟨some 34, _, _, _, _, _⟩) ?a1 59 (.tmp 33) ?a2 (ad.add (i * 14)) ?a3 x _ HCX.out Tryz.underlying59 ?a4 ?a5 ?a6); (case a1 => rfl); (case a2 => rfl); (case a3 => rfl); (case a4 => rfl); (case a5 => (rw [size_item, HXL.out])))
        | ((with_reducible refine wpList_store_new (op := ⟨none, Op.store _ (.tmp 7) (.tmp 34), _, _, _, _⟩) ?b1 59 (.tmp 7) (.tmp 34) ?b2 #[.string ⟨#[]⟩, .string ⟨#[]⟩, .int .i64 0, .string ⟨#[]⟩, .int .i64 0, .string ⟨#[]⟩, .int .i64 0, .string ⟨#[]⟩, .int .i64 0, .int .i64 0, .int .i64 0, .bool false, .bool false, .bool false] x.toArray ?b3 ?b4 ?b5 ?b6 HX1.out ?b7); (case b1 => rfl); (case b2 => rfl); (case b3 => rfl); (case b4 => rfl); (case b5 => (rw [size_item]; simp [HXL.out])); (case b6 => simp [HXL.out])))
      have HWX : Aside0 (Wr B wb bb (bs ++ digits n ++ (rows.take i).flatMap encs) (wr.alloc (.cells x.toArray 59)) ∧ Cs wr.heap.size 59 x (wr.alloc (.cells x.toArray 59))) := ⟨HI.out.1.below (alloc_below _ _), cs_alloc _ _ _ _ rfl⟩
      have HEX : Aside0 (encAt sc_item x = encs x ∧ OkAt sc_item x) := ⟨by rw [sc_item_all]; exact ⟨enc_all _ _ (by rw [HXL.out]; rfl), ok_all _ _ HXF.out⟩⟩
      refine (item_w HWX.out.1 HWX.out.2 (by decide) (by decide) HEX.out.2 (by rw [HEX.out.1]; exact HLX.out)).mono ?_
      rintro e wE ⟨rfl, p1, p2⟩
      have HEE : Aside0 (Wr B wb bb (bs ++ digits n ++ (rows.take (i + 1)).flatMap encs) wE ∧ Wk B bb w wE) := ⟨by rw [HE.out, ← List.append_assoc, ← HEX.out.1]; exact p1, HI.out.2.trans ((Wk.of_below HI.out.1.le (alloc_below _ _)).trans p2)⟩
      clear p1 p2
      go_wp2
      go_roundw
      case rel => exact ⟨i + 1, by omega, by go_num, HEE⟩
      case measure => simp [intOf]; omega
    · obtain rfl : i = n := by omega
      have HFL : Aside0 (rows.take i = rows) := ⟨List.take_of_length_le (by have := HN.out; omega)⟩
      go_wp2
      go_end0
      have := HI.out
      rw [HFL.out] at this
      refine ⟨rfl, ?_, this.2⟩
      unfold encRows
      rw [← HN.out, ← List.append_assoc]
      exact this.1
theorem zeros_item : (#[.string ⟨#[]⟩, .string ⟨#[]⟩, .int .i64 0, .string ⟨#[]⟩, .int .i64 0, .string ⟨#[]⟩, .int .i64 0, .string ⟨#[]⟩, .int .i64 0, .int .i64 0, .int .i64 0, .bool false, .bool false, .bool false] : Array Value) = (ks_item.map zeroV).toArray := rfl
set_option maxHeartbeats 8000000 in
set_option maxRecDepth 100000 in
theorem list_item_r {wb hb j : Nat} {s : Rd} {HT : TypeId} {hcs : List Value} {w : World} (h : Rw wb s w) (hh : Cs hb HT hcs w) (hj : hcs[j]? = some (.slice none 0 0)) (hne : hb ≠ wb) (hHT : HT ≠ 59) (hl : s.D.length ≤ 100000000) :
    Calls Tryz.prog 54 #[.pointer (some ⟨wb, 0, none⟩), .pointer (some ⟨hb, j, none⟩), .func (.func 55) #[] #[]] w (ListRd wb hb j HT 59 14 hcs (rdList ks_item s) w) := by
  obtain ⟨i0, hI0, hz0, hz1, hz2⟩ := infoParts info_item
  obtain ⟨tn, htn⟩ : ∃ tn, tn = (takeN s).1 := ⟨_, rfl⟩
  obtain ⟨s1, hs1⟩ : ∃ s1, s1 = (takeN s).2 := ⟨_, rfl⟩
  obtain ⟨s2, hs2⟩ : ∃ s2, s2 = (counted s).2 := ⟨_, rfl⟩
  have ctk := take_r h (by omega)
  rw [← htn, ← hs1] at ctk
  have htl : tn < 9223372036854775808 := by rw [htn]; exact take_lt s
  have hsl : s1.D.length ≤ 100000000 := by rw [hs1]; exact Nat.le_trans (take_len s) hl
  have hjl : j < hcs.length := (List.getElem?_eq_some_iff.1 hj).1
  have HG : Aside0 (rdList ks_item s = rdRows ks_item tn s2) := ⟨by unfold rdList; rw [hs2, htn]; rfl⟩
  have HE2 : Aside0 (s2 = if s1.D.length < tn then s1.fail else s1) := ⟨by rw [hs2, hs1, htn]; rfl⟩
  have hwc := h.cells.1
  have HH := Aside0.mk (And.intro hh hj)
  have HNE := Aside0.mk (And.intro hne hHT)
  have HHT := Aside0.mk (show hb < w.heap.size ∧ wb < w.heap.size from ⟨hh.lt, Cs.lt h⟩)
  clear h hh hj hHT htn hs1 hs2
  go_enter Tryz.func54, Tryz.ntmps54
  go_wp2_with (fail)
  refine ctk.mono ?_
  rintro e wA ⟨rfl, p1, p2⟩
  have HA : Aside0 (Rw wb s1 wA ∧ Cs hb HT hcs wA ∧ Fr (fun i => i = wb ∨ i = hb) w wA) := ⟨p1, HH.out.1.keep (p2.block hb HH.out.1.lt hne), ⟨p2.os, p2.tape, p2.output, p2.size, fun i hi hn => p2.block i hi fun q => hn (.inl q)⟩⟩
  clear p1 p2 ctk
  obtain ⟨a0, a1, a2, af⟩ := HA.out.1.cells
  obtain ⟨D1, hD1⟩ : ∃ D1 : ByteArray, D1 = ⟨s1.D.toArray⟩ := ⟨_, rfl⟩
  have hD1s : D1.size = s1.D.length := by rw [hD1, size_mk]
  rw [← hD1] at a1
  have HDS := Aside0.mk hD1s
  clear hD1 hD1s
  have hbd : s2.bad = true ∨ tn ≤ 100000000 := by
    rw [HE2.out]
    by_cases hgt : s1.D.length < tn
    · rw [if_pos hgt]; exact .inl rfl
    · right; omega
  have HBD := Aside0.mk hbd
  clear hbd
  go_upto_if 47 with (fail)
  go_cut [] (fun wx => LRd wb hb j HT 59 14 hcs w.heap.size (s2, []) (.slice none 0 0) w wx)
  case first =>
    have hset : hcs.set j (.slice none 0 0) = hcs := by
      apply List.ext_getElem?
      intro q
      rw [List.getElem?_set]
      split
      · rename_i hq
        subst hq
        exact HH.out.2.symm
      · rfl
    have HSET := Aside0.mk hset
    clear hset
    by_cases hgt : s1.D.length < tn
    · have hgt' : (D1.size : Int) < (tn : Int) := by have := HDS.out; omega
      have HGT := Aside0.mk hgt
      clear hgt
      go_wp2
      go_meet
      refine ⟨?_, ?_, World.ownsRow_nil _ _ _ _, HA.out.2.2.set _ _ (.inl (.inl rfl))⟩
      · show Rw wb s2 _
        rw [HE2.out, if_pos HGT.out]
        exact HA.out.1.isBad
      · rw [HSET.out]
        exact Cs.other HA.out.2.1 _ _ (Ne.symm hne)
    · have hgt' : ¬(D1.size : Int) < (tn : Int) := by have := HDS.out; omega
      have HGT := Aside0.mk hgt
      clear hgt
      go_wp2
      go_meet
      refine ⟨?_, ?_, World.ownsRow_nil _ _ _ _, HA.out.2.2⟩
      · show Rw wb s2 _
        rw [HE2.out, if_neg HGT.out]
        exact HA.out.1
      · rw [HSET.out]
        exact HA.out.2.1
  case rest =>
    have HX := Aside0.mk hcut
    clear hcut a0 a1 a2 af HA hwc
    go_wp2_with (fail)
    go_loopw [9] (fun v9 wr => ∃ (i : Nat) (st : Rd) (rows : List (List Value)) (v : Value), i ≤ tn ∧ rows.length = i ∧ v9 = .int .i64 i ∧ Aside0 (st.D.length ≤ 100000000) ∧ Aside0 (st.bad = true ∨ tn ≤ 100000000) ∧ Aside0 (rdRows ks_item tn s2 = ((rdRows ks_item (tn - i) st).1, rows ++ (rdRows ks_item (tn - i) st).2)) ∧ Aside0 (LRd wb hb j HT 59 14 hcs w.heap.size (st, rows) v w wr)) (fun v9 _ => tn - (intOf v9).toNat)
    case atStart => exact ⟨0, s2, [], _, by omega, rfl, rfl, ⟨by rw [HE2.out]; split <;> exact hsl⟩, HBD, ⟨by simp⟩, HX⟩
    case round =>
      obtain ⟨i, st, rows, v, hi, hrl, rfl, HSL, HBT, HRE, HI⟩ := hrel
      clear HX HBD
      obtain ⟨A, c, rfl⟩ : ∃ A c, v = .slice A i c := by rw [← hrl]; exact own_shape HI.out.row
      have HRL := Aside0.mk hrl
      clear hrl
      obtain ⟨b0, b1, b2, bf⟩ := HI.out.rw.cells
      obtain ⟨qb, hbad⟩ : ∃ q, q = st.bad := ⟨_, rfl⟩
      rw [show (st, rows).1.bad = qb from hbad.symm] at b2
      have HBB := Aside0.mk hbad
      clear hbad
      cases qb with
      | true =>
        have HFN : Aside0 (rdList ks_item s = (st, rows)) := ⟨by
          rw [HG.out, HRE.out]
          rw [rows_done _ _ st HBB.out.symm]
          simp⟩
        by_cases hlt : i < tn
        all_goals
          go_wp2
          go_end0
          refine ⟨rfl, .slice A i c, ?_⟩
          rw [HFN.out]
          exact HI.out
      | false =>
        by_cases hlt : i < tn
        · have htb : tn ≤ 100000000 := HBT.out.resolve_left (by rw [← HBB.out]; simp)
          have HNX : Aside0 (rdRows ks_item tn s2 = ((rdRows ks_item (tn - (i + 1)) (rds ks_item st (ks_item.map zeroV)).1).1, (rows ++ [(rds ks_item st (ks_item.map zeroV)).2]) ++ (rdRows ks_item (tn - (i + 1)) (rds ks_item st (ks_item.map zeroV)).1).2)) := ⟨by
            rw [HRE.out, show tn - i = (tn - (i + 1)) + 1 from by omega]
            rw [rows_more _ _ st HBB.out.symm]
            simp⟩
          have HFX : Aside0 (Fits ks_item (rds ks_item st (ks_item.map zeroV)).2) := ⟨fits_rds _ _ _ (fits_zero _)⟩
          have HDL : Aside0 ((rds ks_item st (ks_item.map zeroV)).1.D.length ≤ 100000000) := ⟨by
            rw [← rd_all _ _ _ (by simp)]
            exact Nat.le_trans (rdAt_len _ _).1 HSL.out⟩
          have HRD : Aside0 (rdAt sc_item (st, ks_item.map zeroV) = rds ks_item st (ks_item.map zeroV)) := ⟨by rw [sc_item_all]; exact rd_all _ _ _ (by simp)⟩
          obtain ⟨p, hp⟩ : ∃ p, p = rds ks_item st (ks_item.map zeroV) := ⟨_, rfl⟩
          rw [← hp] at HNX HFX HRD HDL
          clear hp HRE
          obtain ⟨st', x⟩ := p
          simp only at HNX HFX HDL
          have hlw := Cs.lt HI.out.rw
          have hlh := HI.out.cs.lt
          go_wp2_with (fail)
          have HZ : Aside0 (Rw wb st (wr.alloc (.cells #[.string ⟨#[]⟩, .string ⟨#[]⟩, .int .i64 0, .string ⟨#[]⟩, .int .i64 0, .string ⟨#[]⟩, .int .i64 0, .string ⟨#[]⟩, .int .i64 0, .int .i64 0, .int .i64 0, .bool false, .bool false, .bool false] 59)) ∧ Cs wr.heap.size 59 (ks_item.map zeroV) (wr.alloc (.cells #[.string ⟨#[]⟩, .string ⟨#[]⟩, .int .i64 0, .string ⟨#[]⟩, .int .i64 0, .string ⟨#[]⟩, .int .i64 0, .string ⟨#[]⟩, .int .i64 0, .int .i64 0, .int .i64 0, .bool false, .bool false, .bool false] 59))) := ⟨Rw.below HI.out.rw (alloc_below _ _), cs_alloc _ _ _ _ zeros_item⟩
          have HSC : Aside0 (∀ y ∈ sc_item, y.2 < (ks_item.map zeroV).length) := ⟨by decide⟩
          refine (item_r HZ.out.1 HZ.out.2 (by omega) HSC.out (Nat.le_trans HSL.out (by decide))).mono ?_
          rintro e wE ⟨rfl, p1, p2, p3⟩
          rw [HRD.out] at p1 p2
          simp only at p1 p2
          have HE : Aside0 (Rw wb st' wE ∧ Cs wr.heap.size 59 x wE ∧ Cs hb HT (hcs.set j (.slice A i c)) wE ∧ wE.ownsRow w.heap.size 59 14 (.slice A i c) rows.length rows.flatten ∧ Fr (fun i => i = wb ∨ i = hb) w wE) := ⟨by
            have q1 : ∀ b, b < wr.heap.size → b ≠ wb → wE.heap[b]? = wr.heap[b]? := fun b hb' hbw => (p3.block b (by simp; omega) (by rintro (q | q) <;> omega)).trans ((alloc_below wr _).block b hb')
            refine ⟨p1, p2, HI.out.cs.keep (q1 hb hlh hne), own_same HI.out.row fun g hg => q1 g (HI.out.row.lt g hg).2 (fun q => own_ne HI.out.row HI.out.rw (by decide) (by rw [hg, q])), (HI.out.fr.trans (Fr.of_below (alloc_below wr _)) fun i hi => .inl hi).trans p3 fun i hi => ?_⟩
            rcases hi with rfl | rfl
            · exact .inl (.inl rfl)
            · exact .inr HI.out.fr.size⟩
          have hxl : x.length = 14 := fits_len HFX.out
          have HX1 : Aside0 (∀ v ∈ x, v.oneCell' = true) := ⟨fits_one HFX.out⟩
          clear p1 p2 p3 HZ
          have c0 : wE.cell? ⟨hb, j, none⟩ = some (.slice A i c) := by rw [HE.out.2.2.1.cell, List.getElem?_set_self hjl]
          have f0 : wE.frozen? ⟨hb, j, none⟩ = false := HE.out.2.2.1.frozen j
          have hXB : Aside0 (∀ g, (Value.slice A i c).ownBlock = some g → g < wr.heap.size) := ⟨fun g hg => (HI.out.row.lt g hg).2⟩
          have hnh : (Value.slice A i c).ownBlock ≠ some hb := own_ne HE.out.2.2.2.1 HE.out.2.2.1 (Ne.symm HNE.out.2)
          obtain ⟨XB, hxb⟩ : ∃ XB, XB = wr.heap.size := ⟨_, rfl⟩
          rw [← hxb]
          rw [← hxb] at HE hXB
          have hnx : (Value.slice A i c).ownBlock ≠ some XB := fun e => by have := hXB.out XB e; omega
          have r0 : wE.rangeAt XB 0 x := fun q v hv => by rw [Nat.zero_add, HE.out.2.1.cell]; exact hv
          have hxlt := HE.out.2.1.lt
          have hhlt := HE.out.2.2.1.lt
          have hwlt := Cs.lt HE.out.1
          have hu := Tryz.underlying59
          have hi' : (Tryz.prog.info? 59).map (·.size) = some x.length := by rw [size_item, hxl]
          have HXL := Aside0.mk hxl
          have HBS : Aside0 (w.heap.size ≤ wE.heap.size) := ⟨HE.out.2.2.2.2.size⟩
          have HXH : Aside0 (hb < XB) := ⟨by rw [hxb]; exact hlh⟩
          clear hxb hxl HI
          go_upto_region 15 with (fail)
          obtain ⟨WA, hWA⟩ : ∃ WA, WA = wE.drew.alloc (.cells x.toArray 59) := ⟨_, rfl⟩
          have HWB : Aside0 (Below wE.heap.size wE WA) := ⟨by rw [hWA]; have b := alloc_below wE (.cells x.toArray 59); exact ⟨b.os, b.tape, b.output, b.size, b.block⟩⟩
          have HRO : Aside0 (WA.ownsRow w.heap.size 59 14 (.slice A i c) i rows.flatten) := ⟨by have := HE.out.2.2.2.1.drew.alloc (.cells x.toArray 59); rw [HRL.out] at this; rw [hWA]; exact this⟩
          have HSZ : Aside0 (WA.heap.size = wE.heap.size + 1) := ⟨by rw [hWA]; simp⟩
          have HBA : Aside0 (w.heap.size ≤ WA.heap.size) := ⟨by have := HSZ.out; have := HBS.out; omega⟩
          have HRA : Aside0 (WA.rangeAt XB 0 x) := ⟨fun q v hv => by rw [World.cell?_of_block (HWB.out.block XB hxlt)]; exact r0 q v hv⟩
          have HFA : Aside0 (WA.frozen? ⟨hb, j, none⟩ = false) := ⟨by rw [World.frozen?_of_block (HWB.out.block hb hhlt)]; exact f0⟩
          have HCA : Aside0 (WA.cell? ⟨hb, j, none⟩ = some (.slice A i c)) := ⟨by rw [World.cell?_of_block (HWB.out.block hb hhlt)]; exact c0⟩
          have hxh : XB ≠ hb := fun e => by have := HXH.out; omega
          subst hWA
          refine wp_region_held_drew (S := (fun w' => w'.rangeAt XB 0 x)) (by kernel_rfl) ?_ (fun hHeld => ?_)
          · exact r0
          refine' wpAnyH_take (i := 0) (v := _) rfl (by kernel_rfl) (by kernel_rfl) (by kernel_rfl) (fun _ _ _ h => h) ?hy1 (by assumption) ?rs1
          case hy1 => exact .inl ⟨by rfl, by intro w' hSw; go_simp; (try with_reducible rfl)⟩
          (try simp only [Act.put, List.setIfInBounds_toArray, List.set_cons_zero, List.set_cons_succ, List.getElem_toArray, List.getElem_cons_zero, List.getElem_cons_succ])
          refine' wpAnyH_take (i := 1) (v := _) rfl (by kernel_rfl) (by kernel_rfl) (by kernel_rfl) (fun _ _ _ h => h) ?hy2 (by assumption) ?rs2
          case hy2 => exact .inl ⟨by rfl, by intro w' hSw; go_simp; (try with_reducible rfl)⟩
          (try simp only [Act.put, List.setIfInBounds_toArray, List.set_cons_zero, List.set_cons_succ, List.getElem_toArray, List.getElem_cons_zero, List.getElem_cons_succ])
          refine' wpAnyH_take (i := 2) (v := _) rfl (by kernel_rfl) (by kernel_rfl) (by kernel_rfl) (fun _ _ _ h => h) ?hy3 (by assumption) ?rs3
          case hy3 => exact .inl ⟨by rfl, by intro w' hSw; go_simp; (try with_reducible rfl)⟩
          (try simp only [Act.put, List.setIfInBounds_toArray, List.set_cons_zero, List.set_cons_succ, List.getElem_toArray, List.getElem_cons_zero, List.getElem_cons_succ])
          refine' wpAnyH_take (i := 4) (v := _) rfl (by kernel_rfl) (by kernel_rfl) (by kernel_rfl) (fun _ _ _ h => h) ?hy4 (by assumption) ?rs4
          case hy4 =>
            refine yieldsIf_load_mid ?ya 59 (.tmp 10) ?yb XB 0 ?yc x _ ?yd hu rfl hi'
            case ya => rfl
            case yb => rfl
            case yc => rfl
            case yd => exact fun w' hS => hS
          (try simp only [Act.put, List.setIfInBounds_toArray, List.set_cons_zero, List.set_cons_succ, List.getElem_toArray, List.getElem_cons_zero, List.getElem_cons_succ])
          refine wpAnyH_ready (rs := [3, 5]) (by kernel_rfl) (by simp) ?_
          refine AllReadyH.cons rfl (fun K hK => ?_) (AllReadyH.cons rfl (fun K hK => ?_) AllReadyH.nil)
          · go_simp
            refine hK.out _ _ ?_ (fun hHeld => ?_)
            · exact r0
            clear hK K
            (try simp only [Act.put, List.setIfInBounds_toArray, List.set_cons_zero, List.set_cons_succ, List.getElem_toArray, List.getElem_cons_zero, List.getElem_cons_succ])
            refine wpAnyH_ready (rs := [5]) (by kernel_rfl) (by simp) ?_
            refine AllReadyH.cons rfl (fun K hK => ?_) AllReadyH.nil
            refine step_build_one rfl 22 59 (.tmp 70) rfl x rfl i0 _ 14 Tryz.underlying22 hI0 hz0 hz1 HXL.out (by decide) (by decide) ?_
            refine hK.out _ _ ?_ (fun hHeld => ?_)
            · exact HRA.out
            clear hK K
            (try simp only [Act.put, List.setIfInBounds_toArray, List.set_cons_zero, List.set_cons_succ, List.getElem_toArray, List.getElem_cons_zero, List.getElem_cons_succ])
            refine wpAnyH_ready (rs := [6]) (by kernel_rfl) (by simp) ?_
            refine AllReadyH.cons rfl (fun K hK => ?_) AllReadyH.nil
            refine step_append_lies _ rfl (.tmp 69) (.tmp 71) 22 rfl w.heap.size 59 i0 _ 14 136 Tryz.underlying22 hI0 hz0 hz1 hz2 rfl (by decide) (.slice A i c) i rows.flatten rfl HRO.out ⟨wE.heap.size, 0, none⟩ 1 1 x rfl (by rw [HXL.out]) (World.news_of_block (cs := x.toArray) (t := 59) (fr := (0, 0)) (heap_alloc_new wE _)) HX1.out (by decide) (by unfold maxLen; omega) (by omega) HBA.out (wE.heap.size + 1) HSZ.out ?_
            intro gg cap w1 hown1 hgrow hat hlt1
            have HOW := Aside0.mk (And.intro hown1 (And.intro hgrow (And.intro hat hlt1)))
            have g1 : w1.rangeAt XB 0 x := fun q v hv => by
              rw [HOW.out.2.1.cell_far _ (Nat.lt_of_lt_of_le hxlt HWB.out.size) (Ne.symm hnx)]
              exact HRA.out q v hv
            have g2 : w1.frozen? ⟨hb, j, none⟩ = false := by
              rw [HOW.out.2.1.frozen_far _ (Nat.lt_of_lt_of_le hhlt HWB.out.size) (Ne.symm hnh)]
              exact HFA.out
            have g3 : w1.cell? ⟨hb, j, none⟩ = some (.slice A i c) := by
              rw [HOW.out.2.1.cell_far _ (Nat.lt_of_lt_of_le hhlt HWB.out.size) (Ne.symm hnh)]
              exact HCA.out
            clear hown1 hgrow hat
            refine hK.out _ _ ?_ (fun hHeld => ?_)
            · exact g1
            clear hK K
            (try simp only [Act.put, List.setIfInBounds_toArray, List.set_cons_zero, List.set_cons_succ, List.getElem_toArray, List.getElem_cons_zero, List.getElem_cons_succ])
            refine' wpAnyH_take (i := 7) (v := _) rfl (by kernel_rfl) (by kernel_rfl) (by kernel_rfl) (fun _ _ _ h => h) ?hy5 (by assumption) ?rs5
            case hy5 => exact .inl ⟨by rfl, by intro w' hSw; go_simp; (try with_reducible rfl)⟩
            (try simp only [Act.put, List.setIfInBounds_toArray, List.set_cons_zero, List.set_cons_succ, List.getElem_toArray, List.getElem_cons_zero, List.getElem_cons_succ])
            refine wpAnyH_ready (rs := [8]) (by kernel_rfl) (by simp) ?_
            refine AllReadyH.cons rfl (fun K hK => ?_) AllReadyH.nil
            go_simp
            refine hK.out _ _ ?_ (fun hHeld => ?_)
            · exact fun q v hv => by rw [World.cell?_of_block (Below.heap_setCell w1 ⟨hb, j, none⟩ _ XB hxh)]; exact g1 q v hv
            clear hK K
            (try simp only [Act.put, List.setIfInBounds_toArray, List.set_cons_zero, List.set_cons_succ, List.getElem_toArray, List.getElem_cons_zero, List.getElem_cons_succ])
            refine wpAnyH_done (by kernel_rfl) ?_ _
            go_wp2
            go_roundw
            case rel =>
              have hgg : (Value.slice (some ⟨gg, 0, none⟩) (i + 1) cap).ownBlock ≠ some hb := by
                intro e
                have e' : gg = hb := by simpa [Value.ownBlock] using e
                rcases HOW.out.2.2.1 with q | q
                · exact hnh (by rw [q, e'])
                · omega
              refine ⟨i + 1, st', rows ++ [x], .slice (some ⟨gg, 0, none⟩) (i + 1) cap, by omega, by simp [HRL.out], by go_num, HDL, ⟨.inr htb⟩, HNX, ⟨?_⟩⟩
              have hr' := HRL.out
              subst hr'
              exact (LRd.push (st' := st') rfl HNE.out.2 (by decide) (Rw.below HE.out.1 HWB.out) (HE.out.2.2.1.keep (HWB.out.block hb hhlt)) HRO.out (HE.out.2.2.2.2.trans (Fr.of_below HWB.out) fun i hi => .inl hi) HOW.out.1 HOW.out.2.1 HNE.out.1 hgg)
            case measure => simp [intOf]; omega
          · refine step_build_one rfl 22 59 (.tmp 70) rfl x rfl i0 _ 14 Tryz.underlying22 hI0 hz0 hz1 HXL.out (by decide) (by decide) ?_
            refine hK.out _ _ ?_ (fun hHeld => ?_)
            · exact HRA.out
            clear hK K
            (try simp only [Act.put, List.setIfInBounds_toArray, List.set_cons_zero, List.set_cons_succ, List.getElem_toArray, List.getElem_cons_zero, List.getElem_cons_succ])
            have k0 := HCA.out
            refine wpAnyH_ready (rs := [3]) (by kernel_rfl) (by simp) ?_
            refine AllReadyH.cons rfl (fun K hK => ?_) AllReadyH.nil
            go_simp
            refine hK.out _ _ ?_ (fun hHeld => ?_)
            · exact HRA.out
            clear hK K
            (try simp only [Act.put, List.setIfInBounds_toArray, List.set_cons_zero, List.set_cons_succ, List.getElem_toArray, List.getElem_cons_zero, List.getElem_cons_succ])
            refine wpAnyH_ready (rs := [6]) (by kernel_rfl) (by simp) ?_
            refine AllReadyH.cons rfl (fun K hK => ?_) AllReadyH.nil
            refine step_append_lies _ rfl (.tmp 69) (.tmp 71) 22 rfl w.heap.size 59 i0 _ 14 136 Tryz.underlying22 hI0 hz0 hz1 hz2 rfl (by decide) (.slice A i c) i rows.flatten rfl HRO.out ⟨wE.heap.size, 0, none⟩ 1 1 x rfl (by rw [HXL.out]) (World.news_of_block (cs := x.toArray) (t := 59) (fr := (0, 0)) (heap_alloc_new wE _)) HX1.out (by decide) (by unfold maxLen; omega) (by omega) HBA.out (wE.heap.size + 1) HSZ.out ?_
            intro gg cap w1 hown1 hgrow hat hlt1
            have HOW := Aside0.mk (And.intro hown1 (And.intro hgrow (And.intro hat hlt1)))
            have g1 : w1.rangeAt XB 0 x := fun q v hv => by
              rw [HOW.out.2.1.cell_far _ (Nat.lt_of_lt_of_le hxlt HWB.out.size) (Ne.symm hnx)]
              exact HRA.out q v hv
            have g2 : w1.frozen? ⟨hb, j, none⟩ = false := by
              rw [HOW.out.2.1.frozen_far _ (Nat.lt_of_lt_of_le hhlt HWB.out.size) (Ne.symm hnh)]
              exact HFA.out
            have g3 : w1.cell? ⟨hb, j, none⟩ = some (.slice A i c) := by
              rw [HOW.out.2.1.cell_far _ (Nat.lt_of_lt_of_le hhlt HWB.out.size) (Ne.symm hnh)]
              exact HCA.out
            clear hown1 hgrow hat
            refine hK.out _ _ ?_ (fun hHeld => ?_)
            · exact g1
            clear hK K
            (try simp only [Act.put, List.setIfInBounds_toArray, List.set_cons_zero, List.set_cons_succ, List.getElem_toArray, List.getElem_cons_zero, List.getElem_cons_succ])
            refine' wpAnyH_take (i := 7) (v := _) rfl (by kernel_rfl) (by kernel_rfl) (by kernel_rfl) (fun _ _ _ h => h) ?hy6 (by assumption) ?rs6
            case hy6 => exact .inl ⟨by rfl, by intro w' hSw; go_simp; (try with_reducible rfl)⟩
            (try simp only [Act.put, List.setIfInBounds_toArray, List.set_cons_zero, List.set_cons_succ, List.getElem_toArray, List.getElem_cons_zero, List.getElem_cons_succ])
            refine wpAnyH_ready (rs := [8]) (by kernel_rfl) (by simp) ?_
            refine AllReadyH.cons rfl (fun K hK => ?_) AllReadyH.nil
            go_simp
            refine hK.out _ _ ?_ (fun hHeld => ?_)
            · exact fun q v hv => by rw [World.cell?_of_block (Below.heap_setCell w1 ⟨hb, j, none⟩ _ XB hxh)]; exact g1 q v hv
            clear hK K
            (try simp only [Act.put, List.setIfInBounds_toArray, List.set_cons_zero, List.set_cons_succ, List.getElem_toArray, List.getElem_cons_zero, List.getElem_cons_succ])
            refine wpAnyH_done (by kernel_rfl) ?_ _
            go_wp2
            go_roundw
            case rel =>
              have hgg : (Value.slice (some ⟨gg, 0, none⟩) (i + 1) cap).ownBlock ≠ some hb := by
                intro e
                have e' : gg = hb := by simpa [Value.ownBlock] using e
                rcases HOW.out.2.2.1 with q | q
                · exact hnh (by rw [q, e'])
                · omega
              refine ⟨i + 1, st', rows ++ [x], .slice (some ⟨gg, 0, none⟩) (i + 1) cap, by omega, by simp [HRL.out], by go_num, HDL, ⟨.inr htb⟩, HNX, ⟨?_⟩⟩
              have hr' := HRL.out
              subst hr'
              exact (LRd.push (st' := st') rfl HNE.out.2 (by decide) (Rw.below HE.out.1 HWB.out) (HE.out.2.2.1.keep (HWB.out.block hb hhlt)) HRO.out (HE.out.2.2.2.2.trans (Fr.of_below HWB.out) fun i hi => .inl hi) HOW.out.1 HOW.out.2.1 HNE.out.1 hgg)
            case measure => simp [intOf]; omega
        · obtain rfl : i = tn := by omega
          have HFN : Aside0 (rdList ks_item s = (st, rows)) := ⟨by
            rw [HG.out, HRE.out, Nat.sub_self]
            simp [rdRows]⟩
          go_wp2
          go_end0
          refine ⟨rfl, .slice A i c, ?_⟩
          rw [HFN.out]
          exact HI.out
/-! ### list: bin -/
def ks_bin : List K := [.t, .t, .n, .n, .n, .n, .n, .b]
theorem sc_bin_all : sc_bin = scOf 0 ks_bin := by rfl
theorem size_bin : (Tryz.prog.info? 68).map (·.size) = some 8 := by kernel_rfl
theorem info_bin : (Tryz.prog.info? 68).map (fun i => (i.zero, i.size, i.bytes)) = some (some (.agg #[.string ⟨#[]⟩, .string ⟨#[]⟩, .int .i64 0, .int .i64 0, .int .i64 0, .int .i64 0, .int .i64 0, .bool false]), 8, 80) := by kernel_rfl
set_option maxHeartbeats 8000000 in
set_option maxRecDepth 100000 in
theorem list_bin_w {B wb bb hb j c : Nat} {A : Option Addr} {bs : List UInt8} {rows : List (List Value)} {w : World} (h : Wr B wb bb bs w) (hc : w.cell? ⟨hb, j, none⟩ = some (.slice A rows.length c)) (hst : Stay B bb w hb) (hr : RowsAt B bb w A 8 rows)
    (hf : ∀ x ∈ rows, Fits ks_bin x) (hn : rows.length ≤ c) (hn2 : rows.length ≤ 100000000) (hl : bs.length + (encRows rows).length ≤ 140737488355328) :
    Calls Tryz.prog 62 #[.pointer (some ⟨wb, 0, none⟩), .pointer (some ⟨hb, j, none⟩), .func (.func 63) #[] #[]] w (Writ B wb bb (bs ++ encRows rows) w) := by
  obtain ⟨n, hnn⟩ : ∃ n, n = rows.length := ⟨_, rfl⟩
  rw [← hnn] at hc hn hn2
  have HN := Aside0.mk hnn
  have H := Aside0.mk h
  have HST := Aside0.mk hst
  have HR := Aside0.mk hr
  have HF := Aside0.mk hf
  have HL : Aside0 (bs.length + (digits n).length + (rows.flatMap encs).length ≤ 140737488355328) := ⟨by unfold encRows at hl; rw [List.length_append, ← hnn] at hl; omega⟩
  have hwc := h.out
  have HC := Aside0.mk hc
  clear h hst hr hf hl hnn
  go_enter Tryz.func62, Tryz.ntmps62
  go_upto_region 1 with (fail)
  go_region_held3 (fun w' => w'.cell? ⟨wb, 0, none⟩ = some (.pointer (some ⟨bb, 0, none⟩)) ∧ w'.cell? ⟨hb, j, none⟩ = some (.slice A n c)) (first | (go_split_ands; assumption) | (refine ⟨?_, ?_⟩ <;> assumption) | go_keep) (first
    | (go_at_call 94; refine (put_any n (by omega) _ _ (by simp)).mono ?_; rintro e wB ⟨rfl, hk⟩; have hk' : Below w.heap.size w wB := ((alloc_below w _).trans (⟨hk.os, hk.tape, hk.output, hk.size, fun i hi => hk.block i (by simp; omega)⟩ : Below w.heap.size (w.alloc _) wB)); have HB : Aside0 (Wr B wb bb bs wB ∧ Wk B bb w wB) := ⟨H.out.below hk', Wk.of_below H.out.le hk'⟩; clear hk hk'; have g0 := HB.out.1.out; have g1 : wB.cell? ⟨hb, j, none⟩ = some (.slice A n c) := by rw [Stay.cell HST.out HB.out.2]; exact HC.out)
    | (go_at_call 93; refine (HB.out.1.write (digits n) (by have := HL.out; omega)).mono ?_; rintro e wC ⟨⟨z', rfl⟩, hk1, hk2⟩; have HCC : Aside0 (Wr B wb bb (bs ++ digits n) wC ∧ Wk B bb w wC) := ⟨hk1, HB.out.2.trans hk2⟩; clear hk1 hk2; have k0 := HCC.out.1.out; have k1 : wC.cell? ⟨hb, j, none⟩ = some (.slice A n c) := by rw [Stay.cell HST.out HCC.out.2]; exact HC.out)
    | fail)
  go_wp2_with (fail)
  go_loopw [31] (fun v31 wr => ∃ i : Nat, i ≤ n ∧ v31 = .int .i64 i ∧ Aside0 (Wr B wb bb (bs ++ digits n ++ (rows.take i).flatMap encs) wr ∧ Wk B bb w wr)) (fun v31 _ => n - (intOf v31).toNat)
  case atStart => exact ⟨0, by omega, rfl, ⟨by simpa using HCC.out.1, HCC.out.2⟩⟩
  case round =>
    obtain ⟨i, hi, rfl, HI⟩ := hrel
    clear g0 g1 k0 k1 HB HCC
    by_cases hlt : i < n
    · have hil : i < rows.length := by have := HN.out; omega
      obtain ⟨x, hx⟩ : ∃ x, rows[i]? = some x := ⟨_, List.getElem?_eq_getElem hil⟩
      have hxf := HF.out x (List.mem_of_getElem? hx)
      obtain ⟨ad, rfl, hsa, hca⟩ := (HR.out.next HI.out.2).at_ (by omega)
      have hcx := hca i x hx
      have hxl : x.length = 8 := fits_len hxf
      have HE : Aside0 ((rows.take (i + 1)).flatMap encs = (rows.take i).flatMap encs ++ encs x) := ⟨rows_take rows i x hx⟩
      have HLX : Aside0 ((bs ++ digits n ++ (rows.take i).flatMap encs).length + (encs x).length ≤ 140737488355328) := ⟨by
        have h1 := HL.out
        have h2 := rows_le rows (i + 1)
        rw [HE.out, List.length_append] at h2
        simp only [List.length_append]; omega⟩
      have HXF := Aside0.mk hxf
      have HXL := Aside0.mk hxl
      have HCX : Aside0 (∀ m v, x[m]? = some v → wr.cell? ((ad.add (i * 8)).add m) = some v) := ⟨fun m v hv => by rw [add_of_add]; exact hcx m v hv⟩
      have HX1 : Aside0 (x.toArray.all (·.oneCell') = true) := ⟨all_oneCell_toArray (fits_one hxf)⟩
      clear hx hxf hsa hca hcx hxl
      go_wp2_with (first
        | ((with_reducible refine wpList_load_at (op := ⟨some 34, _, _, _, _, _⟩) ?a1 68 (.tmp 33) ?a2 (ad.add (i * 8)) ?a3 x _ HCX.out Tryz.underlying68 ?a4 ?a5 ?a6); (case a1 => rfl); (case a2 => rfl); (case a3 => rfl); (case a4 => rfl); (case a5 => (rw [size_bin, HXL.out])))
        | ((with_reducible refine wpList_store_new (op := ⟨none, Op.store _ (.tmp 7) (.tmp 34), _, _, _, _⟩) ?b1 68 (.tmp 7) (.tmp 34) ?b2 #[.string ⟨#[]⟩, .string ⟨#[]⟩, .int .i64 0, .int .i64 0, .int .i64 0, .int .i64 0, .int .i64 0, .bool false] x.toArray ?b3 ?b4 ?b5 ?b6 HX1.out ?b7); (case b1 => rfl); (case b2 => rfl); (case b3 => rfl); (case b4 => rfl); (case b5 => (rw [size_bin]; simp [HXL.out])); (case b6 => simp [HXL.out])))
      have HWX : Aside0 (Wr B wb bb (bs ++ digits n ++ (rows.take i).flatMap encs) (wr.alloc (.cells x.toArray 68)) ∧ Cs wr.heap.size 68 x (wr.alloc (.cells x.toArray 68))) := ⟨HI.out.1.below (alloc_below _ _), cs_alloc _ _ _ _ rfl⟩
      have HEX : Aside0 (encAt sc_bin x = encs x ∧ OkAt sc_bin x) := ⟨by rw [sc_bin_all]; exact ⟨enc_all _ _ (by rw [HXL.out]; rfl), ok_all _ _ HXF.out⟩⟩
      refine (bin_w HWX.out.1 HWX.out.2 (by decide) (by decide) HEX.out.2 (by rw [HEX.out.1]; exact HLX.out)).mono ?_
      rintro e wE ⟨rfl, p1, p2⟩
      have HEE : Aside0 (Wr B wb bb (bs ++ digits n ++ (rows.take (i + 1)).flatMap encs) wE ∧ Wk B bb w wE) := ⟨by rw [HE.out, ← List.append_assoc, ← HEX.out.1]; exact p1, HI.out.2.trans ((Wk.of_below HI.out.1.le (alloc_below _ _)).trans p2)⟩
      clear p1 p2
      go_wp2
      go_roundw
      case rel => exact ⟨i + 1, by omega, by go_num, HEE⟩
      case measure => simp [intOf]; omega
    · obtain rfl : i = n := by omega
      have HFL : Aside0 (rows.take i = rows) := ⟨List.take_of_length_le (by have := HN.out; omega)⟩
      go_wp2
      go_end0
      have := HI.out
      rw [HFL.out] at this
      refine ⟨rfl, ?_, this.2⟩
      unfold encRows
      rw [← HN.out, ← List.append_assoc]
      exact this.1
theorem zeros_bin : (#[.string ⟨#[]⟩, .string ⟨#[]⟩, .int .i64 0, .int .i64 0, .int .i64 0, .int .i64 0, .int .i64 0, .bool false] : Array Value) = (ks_bin.map zeroV).toArray := rfl
set_option maxHeartbeats 8000000 in
set_option maxRecDepth 100000 in
theorem list_bin_r {wb hb j : Nat} {s : Rd} {HT : TypeId} {hcs : List Value} {w : World} (h : Rw wb s w) (hh : Cs hb HT hcs w) (hj : hcs[j]? = some (.slice none 0 0)) (hne : hb ≠ wb) (hHT : HT ≠ 68) (hl : s.D.length ≤ 100000000) :
    Calls Tryz.prog 62 #[.pointer (some ⟨wb, 0, none⟩), .pointer (some ⟨hb, j, none⟩), .func (.func 63) #[] #[]] w (ListRd wb hb j HT 68 8 hcs (rdList ks_bin s) w) := by
  obtain ⟨i0, hI0, hz0, hz1, hz2⟩ := infoParts info_bin
  obtain ⟨tn, htn⟩ : ∃ tn, tn = (takeN s).1 := ⟨_, rfl⟩
  obtain ⟨s1, hs1⟩ : ∃ s1, s1 = (takeN s).2 := ⟨_, rfl⟩
  obtain ⟨s2, hs2⟩ : ∃ s2, s2 = (counted s).2 := ⟨_, rfl⟩
  have ctk := take_r h (by omega)
  rw [← htn, ← hs1] at ctk
  have htl : tn < 9223372036854775808 := by rw [htn]; exact take_lt s
  have hsl : s1.D.length ≤ 100000000 := by rw [hs1]; exact Nat.le_trans (take_len s) hl
  have hjl : j < hcs.length := (List.getElem?_eq_some_iff.1 hj).1
  have HG : Aside0 (rdList ks_bin s = rdRows ks_bin tn s2) := ⟨by unfold rdList; rw [hs2, htn]; rfl⟩
  have HE2 : Aside0 (s2 = if s1.D.length < tn then s1.fail else s1) := ⟨by rw [hs2, hs1, htn]; rfl⟩
  have hwc := h.cells.1
  have HH := Aside0.mk (And.intro hh hj)
  have HNE := Aside0.mk (And.intro hne hHT)
  have HHT := Aside0.mk (show hb < w.heap.size ∧ wb < w.heap.size from ⟨hh.lt, Cs.lt h⟩)
  clear h hh hj hHT htn hs1 hs2
  go_enter Tryz.func62, Tryz.ntmps62
  go_wp2_with (fail)
  refine ctk.mono ?_
  rintro e wA ⟨rfl, p1, p2⟩
  have HA : Aside0 (Rw wb s1 wA ∧ Cs hb HT hcs wA ∧ Fr (fun i => i = wb ∨ i = hb) w wA) := ⟨p1, HH.out.1.keep (p2.block hb HH.out.1.lt hne), ⟨p2.os, p2.tape, p2.output, p2.size, fun i hi hn => p2.block i hi fun q => hn (.inl q)⟩⟩
  clear p1 p2 ctk
  obtain ⟨a0, a1, a2, af⟩ := HA.out.1.cells
  obtain ⟨D1, hD1⟩ : ∃ D1 : ByteArray, D1 = ⟨s1.D.toArray⟩ := ⟨_, rfl⟩
  have hD1s : D1.size = s1.D.length := by rw [hD1, size_mk]
  rw [← hD1] at a1
  have HDS := Aside0.mk hD1s
  clear hD1 hD1s
  have hbd : s2.bad = true ∨ tn ≤ 100000000 := by
    rw [HE2.out]
    by_cases hgt : s1.D.length < tn
    · rw [if_pos hgt]; exact .inl rfl
    · right; omega
  have HBD := Aside0.mk hbd
  clear hbd
  go_upto_if 47 with (fail)
  go_cut [] (fun wx => LRd wb hb j HT 68 8 hcs w.heap.size (s2, []) (.slice none 0 0) w wx)
  case first =>
    have hset : hcs.set j (.slice none 0 0) = hcs := by
      apply List.ext_getElem?
      intro q
      rw [List.getElem?_set]
      split
      · rename_i hq
        subst hq
        exact HH.out.2.symm
      · rfl
    have HSET := Aside0.mk hset
    clear hset
    by_cases hgt : s1.D.length < tn
    · have hgt' : (D1.size : Int) < (tn : Int) := by have := HDS.out; omega
      have HGT := Aside0.mk hgt
      clear hgt
      go_wp2
      go_meet
      refine ⟨?_, ?_, World.ownsRow_nil _ _ _ _, HA.out.2.2.set _ _ (.inl (.inl rfl))⟩
      · show Rw wb s2 _
        rw [HE2.out, if_pos HGT.out]
        exact HA.out.1.isBad
      · rw [HSET.out]
        exact Cs.other HA.out.2.1 _ _ (Ne.symm hne)
    · have hgt' : ¬(D1.size : Int) < (tn : Int) := by have := HDS.out; omega
      have HGT := Aside0.mk hgt
      clear hgt
      go_wp2
      go_meet
      refine ⟨?_, ?_, World.ownsRow_nil _ _ _ _, HA.out.2.2⟩
      · show Rw wb s2 _
        rw [HE2.out, if_neg HGT.out]
        exact HA.out.1
      · rw [HSET.out]
        exact HA.out.2.1
  case rest =>
    have HX := Aside0.mk hcut
    clear hcut a0 a1 a2 af HA hwc
    go_wp2_with (fail)
    go_loopw [9] (fun v9 wr => ∃ (i : Nat) (st : Rd) (rows : List (List Value)) (v : Value), i ≤ tn ∧ rows.length = i ∧ v9 = .int .i64 i ∧ Aside0 (st.D.length ≤ 100000000) ∧ Aside0 (st.bad = true ∨ tn ≤ 100000000) ∧ Aside0 (rdRows ks_bin tn s2 = ((rdRows ks_bin (tn - i) st).1, rows ++ (rdRows ks_bin (tn - i) st).2)) ∧ Aside0 (LRd wb hb j HT 68 8 hcs w.heap.size (st, rows) v w wr)) (fun v9 _ => tn - (intOf v9).toNat)
    case atStart => exact ⟨0, s2, [], _, by omega, rfl, rfl, ⟨by rw [HE2.out]; split <;> exact hsl⟩, HBD, ⟨by simp⟩, HX⟩
    case round =>
      obtain ⟨i, st, rows, v, hi, hrl, rfl, HSL, HBT, HRE, HI⟩ := hrel
      clear HX HBD
      obtain ⟨A, c, rfl⟩ : ∃ A c, v = .slice A i c := by rw [← hrl]; exact own_shape HI.out.row
      have HRL := Aside0.mk hrl
      clear hrl
      obtain ⟨b0, b1, b2, bf⟩ := HI.out.rw.cells
      obtain ⟨qb, hbad⟩ : ∃ q, q = st.bad := ⟨_, rfl⟩
      rw [show (st, rows).1.bad = qb from hbad.symm] at b2
      have HBB := Aside0.mk hbad
      clear hbad
      cases qb with
      | true =>
        have HFN : Aside0 (rdList ks_bin s = (st, rows)) := ⟨by
          rw [HG.out, HRE.out]
          rw [rows_done _ _ st HBB.out.symm]
          simp⟩
        by_cases hlt : i < tn
        all_goals
          go_wp2
          go_end0
          refine ⟨rfl, .slice A i c, ?_⟩
          rw [HFN.out]
          exact HI.out
      | false =>
        by_cases hlt : i < tn
        · have htb : tn ≤ 100000000 := HBT.out.resolve_left (by rw [← HBB.out]; simp)
          have HNX : Aside0 (rdRows ks_bin tn s2 = ((rdRows ks_bin (tn - (i + 1)) (rds ks_bin st (ks_bin.map zeroV)).1).1, (rows ++ [(rds ks_bin st (ks_bin.map zeroV)).2]) ++ (rdRows ks_bin (tn - (i + 1)) (rds ks_bin st (ks_bin.map zeroV)).1).2)) := ⟨by
            rw [HRE.out, show tn - i = (tn - (i + 1)) + 1 from by omega]
            rw [rows_more _ _ st HBB.out.symm]
            simp⟩
          have HFX : Aside0 (Fits ks_bin (rds ks_bin st (ks_bin.map zeroV)).2) := ⟨fits_rds _ _ _ (fits_zero _)⟩
          have HDL : Aside0 ((rds ks_bin st (ks_bin.map zeroV)).1.D.length ≤ 100000000) := ⟨by
            rw [← rd_all _ _ _ (by simp)]
            exact Nat.le_trans (rdAt_len _ _).1 HSL.out⟩
          have HRD : Aside0 (rdAt sc_bin (st, ks_bin.map zeroV) = rds ks_bin st (ks_bin.map zeroV)) := ⟨by rw [sc_bin_all]; exact rd_all _ _ _ (by simp)⟩
          obtain ⟨p, hp⟩ : ∃ p, p = rds ks_bin st (ks_bin.map zeroV) := ⟨_, rfl⟩
          rw [← hp] at HNX HFX HRD HDL
          clear hp HRE
          obtain ⟨st', x⟩ := p
          simp only at HNX HFX HDL
          have hlw := Cs.lt HI.out.rw
          have hlh := HI.out.cs.lt
          go_wp2_with (fail)
          have HZ : Aside0 (Rw wb st (wr.alloc (.cells #[.string ⟨#[]⟩, .string ⟨#[]⟩, .int .i64 0, .int .i64 0, .int .i64 0, .int .i64 0, .int .i64 0, .bool false] 68)) ∧ Cs wr.heap.size 68 (ks_bin.map zeroV) (wr.alloc (.cells #[.string ⟨#[]⟩, .string ⟨#[]⟩, .int .i64 0, .int .i64 0, .int .i64 0, .int .i64 0, .int .i64 0, .bool false] 68))) := ⟨Rw.below HI.out.rw (alloc_below _ _), cs_alloc _ _ _ _ zeros_bin⟩
          have HSC : Aside0 (∀ y ∈ sc_bin, y.2 < (ks_bin.map zeroV).length) := ⟨by decide⟩
          refine (bin_r HZ.out.1 HZ.out.2 (by omega) HSC.out (Nat.le_trans HSL.out (by decide))).mono ?_
          rintro e wE ⟨rfl, p1, p2, p3⟩
          rw [HRD.out] at p1 p2
          simp only at p1 p2
          have HE : Aside0 (Rw wb st' wE ∧ Cs wr.heap.size 68 x wE ∧ Cs hb HT (hcs.set j (.slice A i c)) wE ∧ wE.ownsRow w.heap.size 68 8 (.slice A i c) rows.length rows.flatten ∧ Fr (fun i => i = wb ∨ i = hb) w wE) := ⟨by
            have q1 : ∀ b, b < wr.heap.size → b ≠ wb → wE.heap[b]? = wr.heap[b]? := fun b hb' hbw => (p3.block b (by simp; omega) (by rintro (q | q) <;> omega)).trans ((alloc_below wr _).block b hb')
            refine ⟨p1, p2, HI.out.cs.keep (q1 hb hlh hne), own_same HI.out.row fun g hg => q1 g (HI.out.row.lt g hg).2 (fun q => own_ne HI.out.row HI.out.rw (by decide) (by rw [hg, q])), (HI.out.fr.trans (Fr.of_below (alloc_below wr _)) fun i hi => .inl hi).trans p3 fun i hi => ?_⟩
            rcases hi with rfl | rfl
            · exact .inl (.inl rfl)
            · exact .inr HI.out.fr.size⟩
          have hxl : x.length = 8 := fits_len HFX.out
          have HX1 : Aside0 (∀ v ∈ x, v.oneCell' = true) := ⟨fits_one HFX.out⟩
          clear p1 p2 p3 HZ
          have c0 : wE.cell? ⟨hb, j, none⟩ = some (.slice A i c) := by rw [HE.out.2.2.1.cell, List.getElem?_set_self hjl]
          have f0 : wE.frozen? ⟨hb, j, none⟩ = false := HE.out.2.2.1.frozen j
          have hXB : Aside0 (∀ g, (Value.slice A i c).ownBlock = some g → g < wr.heap.size) := ⟨fun g hg => (HI.out.row.lt g hg).2⟩
          have hnh : (Value.slice A i c).ownBlock ≠ some hb := own_ne HE.out.2.2.2.1 HE.out.2.2.1 (Ne.symm HNE.out.2)
          obtain ⟨XB, hxb⟩ : ∃ XB, XB = wr.heap.size := ⟨_, rfl⟩
          rw [← hxb]
          rw [← hxb] at HE hXB
          have hnx : (Value.slice A i c).ownBlock ≠ some XB := fun e => by have := hXB.out XB e; omega
          have r0 : wE.rangeAt XB 0 x := fun q v hv => by rw [Nat.zero_add, HE.out.2.1.cell]; exact hv
          have hxlt := HE.out.2.1.lt
          have hhlt := HE.out.2.2.1.lt
          have hwlt := Cs.lt HE.out.1
          have hu := Tryz.underlying68
          have hi' : (Tryz.prog.info? 68).map (·.size) = some x.length := by rw [size_bin, hxl]
          have HXL := Aside0.mk hxl
          have HBS : Aside0 (w.heap.size ≤ wE.heap.size) := ⟨HE.out.2.2.2.2.size⟩
          have HXH : Aside0 (hb < XB) := ⟨by rw [hxb]; exact hlh⟩
          clear hxb hxl HI
          go_upto_region 15 with (fail)
          obtain ⟨WA, hWA⟩ : ∃ WA, WA = wE.drew.alloc (.cells x.toArray 68) := ⟨_, rfl⟩
          have HWB : Aside0 (Below wE.heap.size wE WA) := ⟨by rw [hWA]; have b := alloc_below wE (.cells x.toArray 68); exact ⟨b.os, b.tape, b.output, b.size, b.block⟩⟩
          have HRO : Aside0 (WA.ownsRow w.heap.size 68 8 (.slice A i c) i rows.flatten) := ⟨by have := HE.out.2.2.2.1.drew.alloc (.cells x.toArray 68); rw [HRL.out] at this; rw [hWA]; exact this⟩
          have HSZ : Aside0 (WA.heap.size = wE.heap.size + 1) := ⟨by rw [hWA]; simp⟩
          have HBA : Aside0 (w.heap.size ≤ WA.heap.size) := ⟨by have := HSZ.out; have := HBS.out; omega⟩
          have HRA : Aside0 (WA.rangeAt XB 0 x) := ⟨fun q v hv => by rw [World.cell?_of_block (HWB.out.block XB hxlt)]; exact r0 q v hv⟩
          have HFA : Aside0 (WA.frozen? ⟨hb, j, none⟩ = false) := ⟨by rw [World.frozen?_of_block (HWB.out.block hb hhlt)]; exact f0⟩
          have HCA : Aside0 (WA.cell? ⟨hb, j, none⟩ = some (.slice A i c)) := ⟨by rw [World.cell?_of_block (HWB.out.block hb hhlt)]; exact c0⟩
          have hxh : XB ≠ hb := fun e => by have := HXH.out; omega
          subst hWA
          refine wp_region_held_drew (S := (fun w' => w'.rangeAt XB 0 x)) (by kernel_rfl) ?_ (fun hHeld => ?_)
          · exact r0
          refine' wpAnyH_take (i := 0) (v := _) rfl (by kernel_rfl) (by kernel_rfl) (by kernel_rfl) (fun _ _ _ h => h) ?hy1 (by assumption) ?rs1
          case hy1 => exact .inl ⟨by rfl, by intro w' hSw; go_simp; (try with_reducible rfl)⟩
          (try simp only [Act.put, List.setIfInBounds_toArray, List.set_cons_zero, List.set_cons_succ, List.getElem_toArray, List.getElem_cons_zero, List.getElem_cons_succ])
          refine' wpAnyH_take (i := 1) (v := _) rfl (by kernel_rfl) (by kernel_rfl) (by kernel_rfl) (fun _ _ _ h => h) ?hy2 (by assumption) ?rs2
          case hy2 => exact .inl ⟨by rfl, by intro w' hSw; go_simp; (try with_reducible rfl)⟩
          (try simp only [Act.put, List.setIfInBounds_toArray, List.set_cons_zero, List.set_cons_succ, List.getElem_toArray, List.getElem_cons_zero, List.getElem_cons_succ])
          refine' wpAnyH_take (i := 2) (v := _) rfl (by kernel_rfl) (by kernel_rfl) (by kernel_rfl) (fun _ _ _ h => h) ?hy3 (by assumption) ?rs3
          case hy3 => exact .inl ⟨by rfl, by intro w' hSw; go_simp; (try with_reducible rfl)⟩
          (try simp only [Act.put, List.setIfInBounds_toArray, List.set_cons_zero, List.set_cons_succ, List.getElem_toArray, List.getElem_cons_zero, List.getElem_cons_succ])
          refine' wpAnyH_take (i := 4) (v := _) rfl (by kernel_rfl) (by kernel_rfl) (by kernel_rfl) (fun _ _ _ h => h) ?hy4 (by assumption) ?rs4
          case hy4 =>
            refine yieldsIf_load_mid ?ya 68 (.tmp 10) ?yb XB 0 ?yc x _ ?yd hu rfl hi'
            case ya => rfl
            case yb => rfl
            case yc => rfl
            case yd => exact fun w' hS => hS
          (try simp only [Act.put, List.setIfInBounds_toArray, List.set_cons_zero, List.set_cons_succ, List.getElem_toArray, List.getElem_cons_zero, List.getElem_cons_succ])
          refine wpAnyH_ready (rs := [3, 5]) (by kernel_rfl) (by simp) ?_
          refine AllReadyH.cons rfl (fun K hK => ?_) (AllReadyH.cons rfl (fun K hK => ?_) AllReadyH.nil)
          · go_simp
            refine hK.out _ _ ?_ (fun hHeld => ?_)
            · exact r0
            clear hK K
            (try simp only [Act.put, List.setIfInBounds_toArray, List.set_cons_zero, List.set_cons_succ, List.getElem_toArray, List.getElem_cons_zero, List.getElem_cons_succ])
            refine wpAnyH_ready (rs := [5]) (by kernel_rfl) (by simp) ?_
            refine AllReadyH.cons rfl (fun K hK => ?_) AllReadyH.nil
            refine step_build_one rfl 25 68 (.tmp 70) rfl x rfl i0 _ 8 Tryz.underlying25 hI0 hz0 hz1 HXL.out (by decide) (by decide) ?_
            refine hK.out _ _ ?_ (fun hHeld => ?_)
            · exact HRA.out
            clear hK K
            (try simp only [Act.put, List.setIfInBounds_toArray, List.set_cons_zero, List.set_cons_succ, List.getElem_toArray, List.getElem_cons_zero, List.getElem_cons_succ])
            refine wpAnyH_ready (rs := [6]) (by kernel_rfl) (by simp) ?_
            refine AllReadyH.cons rfl (fun K hK => ?_) AllReadyH.nil
            refine step_append_lies _ rfl (.tmp 69) (.tmp 71) 25 rfl w.heap.size 68 i0 _ 8 80 Tryz.underlying25 hI0 hz0 hz1 hz2 rfl (by decide) (.slice A i c) i rows.flatten rfl HRO.out ⟨wE.heap.size, 0, none⟩ 1 1 x rfl (by rw [HXL.out]) (World.news_of_block (cs := x.toArray) (t := 68) (fr := (0, 0)) (heap_alloc_new wE _)) HX1.out (by decide) (by unfold maxLen; omega) (by omega) HBA.out (wE.heap.size + 1) HSZ.out ?_
            intro gg cap w1 hown1 hgrow hat hlt1
            have HOW := Aside0.mk (And.intro hown1 (And.intro hgrow (And.intro hat hlt1)))
            have g1 : w1.rangeAt XB 0 x := fun q v hv => by
              rw [HOW.out.2.1.cell_far _ (Nat.lt_of_lt_of_le hxlt HWB.out.size) (Ne.symm hnx)]
              exact HRA.out q v hv
            have g2 : w1.frozen? ⟨hb, j, none⟩ = false := by
              rw [HOW.out.2.1.frozen_far _ (Nat.lt_of_lt_of_le hhlt HWB.out.size) (Ne.symm hnh)]
              exact HFA.out
            have g3 : w1.cell? ⟨hb, j, none⟩ = some (.slice A i c) := by
              rw [HOW.out.2.1.cell_far _ (Nat.lt_of_lt_of_le hhlt HWB.out.size) (Ne.symm hnh)]
              exact HCA.out
            clear hown1 hgrow hat
            refine hK.out _ _ ?_ (fun hHeld => ?_)
            · exact g1
            clear hK K
            (try simp only [Act.put, List.setIfInBounds_toArray, List.set_cons_zero, List.set_cons_succ, List.getElem_toArray, List.getElem_cons_zero, List.getElem_cons_succ])
            refine' wpAnyH_take (i := 7) (v := _) rfl (by kernel_rfl) (by kernel_rfl) (by kernel_rfl) (fun _ _ _ h => h) ?hy5 (by assumption) ?rs5
            case hy5 => exact .inl ⟨by rfl, by intro w' hSw; go_simp; (try with_reducible rfl)⟩
            (try simp only [Act.put, List.setIfInBounds_toArray, List.set_cons_zero, List.set_cons_succ, List.getElem_toArray, List.getElem_cons_zero, List.getElem_cons_succ])
            refine wpAnyH_ready (rs := [8]) (by kernel_rfl) (by simp) ?_
            refine AllReadyH.cons rfl (fun K hK => ?_) AllReadyH.nil
            go_simp
            refine hK.out _ _ ?_ (fun hHeld => ?_)
            · exact fun q v hv => by rw [World.cell?_of_block (Below.heap_setCell w1 ⟨hb, j, none⟩ _ XB hxh)]; exact g1 q v hv
            clear hK K
            (try simp only [Act.put, List.setIfInBounds_toArray, List.set_cons_zero, List.set_cons_succ, List.getElem_toArray, List.getElem_cons_zero, List.getElem_cons_succ])
            refine wpAnyH_done (by kernel_rfl) ?_ _
            go_wp2
            go_roundw
            case rel =>
              have hgg : (Value.slice (some ⟨gg, 0, none⟩) (i + 1) cap).ownBlock ≠ some hb := by
                intro e
                have e' : gg = hb := by simpa [Value.ownBlock] using e
                rcases HOW.out.2.2.1 with q | q
                · exact hnh (by rw [q, e'])
                · omega
              refine ⟨i + 1, st', rows ++ [x], .slice (some ⟨gg, 0, none⟩) (i + 1) cap, by omega, by simp [HRL.out], by go_num, HDL, ⟨.inr htb⟩, HNX, ⟨?_⟩⟩
              have hr' := HRL.out
              subst hr'
              exact (LRd.push (st' := st') rfl HNE.out.2 (by decide) (Rw.below HE.out.1 HWB.out) (HE.out.2.2.1.keep (HWB.out.block hb hhlt)) HRO.out (HE.out.2.2.2.2.trans (Fr.of_below HWB.out) fun i hi => .inl hi) HOW.out.1 HOW.out.2.1 HNE.out.1 hgg)
            case measure => simp [intOf]; omega
          · refine step_build_one rfl 25 68 (.tmp 70) rfl x rfl i0 _ 8 Tryz.underlying25 hI0 hz0 hz1 HXL.out (by decide) (by decide) ?_
            refine hK.out _ _ ?_ (fun hHeld => ?_)
            · exact HRA.out
            clear hK K
            (try simp only [Act.put, List.setIfInBounds_toArray, List.set_cons_zero, List.set_cons_succ, List.getElem_toArray, List.getElem_cons_zero, List.getElem_cons_succ])
            have k0 := HCA.out
            refine wpAnyH_ready (rs := [3]) (by kernel_rfl) (by simp) ?_
            refine AllReadyH.cons rfl (fun K hK => ?_) AllReadyH.nil
            go_simp
            refine hK.out _ _ ?_ (fun hHeld => ?_)
            · exact HRA.out
            clear hK K
            (try simp only [Act.put, List.setIfInBounds_toArray, List.set_cons_zero, List.set_cons_succ, List.getElem_toArray, List.getElem_cons_zero, List.getElem_cons_succ])
            refine wpAnyH_ready (rs := [6]) (by kernel_rfl) (by simp) ?_
            refine AllReadyH.cons rfl (fun K hK => ?_) AllReadyH.nil
            refine step_append_lies _ rfl (.tmp 69) (.tmp 71) 25 rfl w.heap.size 68 i0 _ 8 80 Tryz.underlying25 hI0 hz0 hz1 hz2 rfl (by decide) (.slice A i c) i rows.flatten rfl HRO.out ⟨wE.heap.size, 0, none⟩ 1 1 x rfl (by rw [HXL.out]) (World.news_of_block (cs := x.toArray) (t := 68) (fr := (0, 0)) (heap_alloc_new wE _)) HX1.out (by decide) (by unfold maxLen; omega) (by omega) HBA.out (wE.heap.size + 1) HSZ.out ?_
            intro gg cap w1 hown1 hgrow hat hlt1
            have HOW := Aside0.mk (And.intro hown1 (And.intro hgrow (And.intro hat hlt1)))
            have g1 : w1.rangeAt XB 0 x := fun q v hv => by
              rw [HOW.out.2.1.cell_far _ (Nat.lt_of_lt_of_le hxlt HWB.out.size) (Ne.symm hnx)]
              exact HRA.out q v hv
            have g2 : w1.frozen? ⟨hb, j, none⟩ = false := by
              rw [HOW.out.2.1.frozen_far _ (Nat.lt_of_lt_of_le hhlt HWB.out.size) (Ne.symm hnh)]
              exact HFA.out
            have g3 : w1.cell? ⟨hb, j, none⟩ = some (.slice A i c) := by
              rw [HOW.out.2.1.cell_far _ (Nat.lt_of_lt_of_le hhlt HWB.out.size) (Ne.symm hnh)]
              exact HCA.out
            clear hown1 hgrow hat
            refine hK.out _ _ ?_ (fun hHeld => ?_)
            · exact g1
            clear hK K
            (try simp only [Act.put, List.setIfInBounds_toArray, List.set_cons_zero, List.set_cons_succ, List.getElem_toArray, List.getElem_cons_zero, List.getElem_cons_succ])
            refine' wpAnyH_take (i := 7) (v := _) rfl (by kernel_rfl) (by kernel_rfl) (by kernel_rfl) (fun _ _ _ h => h) ?hy6 (by assumption) ?rs6
            case hy6 => exact .inl ⟨by rfl, by intro w' hSw; go_simp; (try with_reducible rfl)⟩
            (try simp only [Act.put, List.setIfInBounds_toArray, List.set_cons_zero, List.set_cons_succ, List.getElem_toArray, List.getElem_cons_zero, List.getElem_cons_succ])
            refine wpAnyH_ready (rs := [8]) (by kernel_rfl) (by simp) ?_
            refine AllReadyH.cons rfl (fun K hK => ?_) AllReadyH.nil
            go_simp
            refine hK.out _ _ ?_ (fun hHeld => ?_)
            · exact fun q v hv => by rw [World.cell?_of_block (Below.heap_setCell w1 ⟨hb, j, none⟩ _ XB hxh)]; exact g1 q v hv
            clear hK K
            (try simp only [Act.put, List.setIfInBounds_toArray, List.set_cons_zero, List.set_cons_succ, List.getElem_toArray, List.getElem_cons_zero, List.getElem_cons_succ])
            refine wpAnyH_done (by kernel_rfl) ?_ _
            go_wp2
            go_roundw
            case rel =>
              have hgg : (Value.slice (some ⟨gg, 0, none⟩) (i + 1) cap).ownBlock ≠ some hb := by
                intro e
                have e' : gg = hb := by simpa [Value.ownBlock] using e
                rcases HOW.out.2.2.1 with q | q
                · exact hnh (by rw [q, e'])
                · omega
              refine ⟨i + 1, st', rows ++ [x], .slice (some ⟨gg, 0, none⟩) (i + 1) cap, by omega, by simp [HRL.out], by go_num, HDL, ⟨.inr htb⟩, HNX, ⟨?_⟩⟩
              have hr' := HRL.out
              subst hr'
              exact (LRd.push (st' := st') rfl HNE.out.2 (by decide) (Rw.below HE.out.1 HWB.out) (HE.out.2.2.1.keep (HWB.out.block hb hhlt)) HRO.out (HE.out.2.2.2.2.trans (Fr.of_below HWB.out) fun i hi => .inl hi) HOW.out.1 HOW.out.2.1 HNE.out.1 hgg)
            case measure => simp [intOf]; omega
        · obtain rfl : i = tn := by omega
          have HFN : Aside0 (rdList ks_bin s = (st, rows)) := ⟨by
            rw [HG.out, HRE.out, Nat.sub_self]
            simp [rdRows]⟩
          go_wp2
          go_end0
          refine ⟨rfl, .slice A i c, ?_⟩
          rw [HFN.out]
          exact HI.out
/-! ### list: quant -/
def ks_quant : List K := [.t, .t, .t, .n, .n, .n]
theorem sc_quant_all : sc_quant = scOf 0 ks_quant := by rfl
theorem size_quant : (Tryz.prog.info? 73).map (·.size) = some 6 := by kernel_rfl
theorem info_quant : (Tryz.prog.info? 73).map (fun i => (i.zero, i.size, i.bytes)) = some (some (.agg #[.string ⟨#[]⟩, .string ⟨#[]⟩, .string ⟨#[]⟩, .int .i64 0, .int .i64 0, .int .i64 0]), 6, 72) := by kernel_rfl
set_option maxHeartbeats 8000000 in
set_option maxRecDepth 100000 in
theorem list_quant_w {B wb bb hb j c : Nat} {A : Option Addr} {bs : List UInt8} {rows : List (List Value)} {w : World} (h : Wr B wb bb bs w) (hc : w.cell? ⟨hb, j, none⟩ = some (.slice A rows.length c)) (hst : Stay B bb w hb) (hr : RowsAt B bb w A 6 rows)
    (hf : ∀ x ∈ rows, Fits ks_quant x) (hn : rows.length ≤ c) (hn2 : rows.length ≤ 100000000) (hl : bs.length + (encRows rows).length ≤ 140737488355328) :
    Calls Tryz.prog 64 #[.pointer (some ⟨wb, 0, none⟩), .pointer (some ⟨hb, j, none⟩), .func (.func 65) #[] #[]] w (Writ B wb bb (bs ++ encRows rows) w) := by
  obtain ⟨n, hnn⟩ : ∃ n, n = rows.length := ⟨_, rfl⟩
  rw [← hnn] at hc hn hn2
  have HN := Aside0.mk hnn
  have H := Aside0.mk h
  have HST := Aside0.mk hst
  have HR := Aside0.mk hr
  have HF := Aside0.mk hf
  have HL : Aside0 (bs.length + (digits n).length + (rows.flatMap encs).length ≤ 140737488355328) := ⟨by unfold encRows at hl; rw [List.length_append, ← hnn] at hl; omega⟩
  have hwc := h.out
  have HC := Aside0.mk hc
  clear h hst hr hf hl hnn
  go_enter Tryz.func64, Tryz.ntmps64
  go_upto_region 1 with (fail)
  go_region_held3 (fun w' => w'.cell? ⟨wb, 0, none⟩ = some (.pointer (some ⟨bb, 0, none⟩)) ∧ w'.cell? ⟨hb, j, none⟩ = some (.slice A n c)) (first | (go_split_ands; assumption) | (refine ⟨?_, ?_⟩ <;> assumption) | go_keep) (first
    | (go_at_call 94; refine (put_any n (by omega) _ _ (by simp)).mono ?_; rintro e wB ⟨rfl, hk⟩; have hk' : Below w.heap.size w wB := ((alloc_below w _).trans (⟨hk.os, hk.tape, hk.output, hk.size, fun i hi => hk.block i (by simp; omega)⟩ : Below w.heap.size (w.alloc _) wB)); have HB : Aside0 (Wr B wb bb bs wB ∧ Wk B bb w wB) := ⟨H.out.below hk', Wk.of_below H.out.le hk'⟩; clear hk hk'; have g0 := HB.out.1.out; have g1 : wB.cell? ⟨hb, j, none⟩ = some (.slice A n c) := by rw [Stay.cell HST.out HB.out.2]; exact HC.out)
    | (go_at_call 93; refine (HB.out.1.write (digits n) (by have := HL.out; omega)).mono ?_; rintro e wC ⟨⟨z', rfl⟩, hk1, hk2⟩; have HCC : Aside0 (Wr B wb bb (bs ++ digits n) wC ∧ Wk B bb w wC) := ⟨hk1, HB.out.2.trans hk2⟩; clear hk1 hk2; have k0 := HCC.out.1.out; have k1 : wC.cell? ⟨hb, j, none⟩ = some (.slice A n c) := by rw [Stay.cell HST.out HCC.out.2]; exact HC.out)
    | fail)
  go_wp2_with (fail)
  go_loopw [31] (fun v31 wr => ∃ i : Nat, i ≤ n ∧ v31 = .int .i64 i ∧ Aside0 (Wr B wb bb (bs ++ digits n ++ (rows.take i).flatMap encs) wr ∧ Wk B bb w wr)) (fun v31 _ => n - (intOf v31).toNat)
  case atStart => exact ⟨0, by omega, rfl, ⟨by simpa using HCC.out.1, HCC.out.2⟩⟩
  case round =>
    obtain ⟨i, hi, rfl, HI⟩ := hrel
    clear g0 g1 k0 k1 HB HCC
    by_cases hlt : i < n
    · have hil : i < rows.length := by have := HN.out; omega
      obtain ⟨x, hx⟩ : ∃ x, rows[i]? = some x := ⟨_, List.getElem?_eq_getElem hil⟩
      have hxf := HF.out x (List.mem_of_getElem? hx)
      obtain ⟨ad, rfl, hsa, hca⟩ := (HR.out.next HI.out.2).at_ (by omega)
      have hcx := hca i x hx
      have hxl : x.length = 6 := fits_len hxf
      have HE : Aside0 ((rows.take (i + 1)).flatMap encs = (rows.take i).flatMap encs ++ encs x) := ⟨rows_take rows i x hx⟩
      have HLX : Aside0 ((bs ++ digits n ++ (rows.take i).flatMap encs).length + (encs x).length ≤ 140737488355328) := ⟨by
        have h1 := HL.out
        have h2 := rows_le rows (i + 1)
        rw [HE.out, List.length_append] at h2
        simp only [List.length_append]; omega⟩
      have HXF := Aside0.mk hxf
      have HXL := Aside0.mk hxl
      have HCX : Aside0 (∀ m v, x[m]? = some v → wr.cell? ((ad.add (i * 6)).add m) = some v) := ⟨fun m v hv => by rw [add_of_add]; exact hcx m v hv⟩
      have HX1 : Aside0 (x.toArray.all (·.oneCell') = true) := ⟨all_oneCell_toArray (fits_one hxf)⟩
      clear hx hxf hsa hca hcx hxl
      go_wp2_with (first
        | ((with_reducible refine wpList_load_at (op := ⟨some 34, _, _, _, _, _⟩) ?a1 73 (.tmp 33) ?a2 (ad.add (i * 6)) ?a3 x _ HCX.out Tryz.underlying73 ?a4 ?a5 ?a6); (case a1 => rfl); (case a2 => rfl); (case a3 => rfl); (case a4 => rfl); (case a5 => (rw [size_quant, HXL.out])))
        | ((with_reducible refine wpList_store_new (op := ⟨none, Op.store _ (.tmp 7) (.tmp 34), _, _, _, _⟩) ?b1 73 (.tmp 7) (.tmp 34) ?b2 #[.string ⟨#[]⟩, .string ⟨#[]⟩, .string ⟨#[]⟩, .int .i64 0, .int .i64 0, .int .i64 0] x.toArray ?b3 ?b4 ?b5 ?b6 HX1.out ?b7); (case b1 => rfl); (case b2 => rfl); (case b3 => rfl); (case b4 => rfl); (case b5 => (rw [size_quant]; simp [HXL.out])); (case b6 => simp [HXL.out])))
      have HWX : Aside0 (Wr B wb bb (bs ++ digits n ++ (rows.take i).flatMap encs) (wr.alloc (.cells x.toArray 73)) ∧ Cs wr.heap.size 73 x (wr.alloc (.cells x.toArray 73))) := ⟨HI.out.1.below (alloc_below _ _), cs_alloc _ _ _ _ rfl⟩
      have HEX : Aside0 (encAt sc_quant x = encs x ∧ OkAt sc_quant x) := ⟨by rw [sc_quant_all]; exact ⟨enc_all _ _ (by rw [HXL.out]; rfl), ok_all _ _ HXF.out⟩⟩
      refine (quant_w HWX.out.1 HWX.out.2 (by decide) (by decide) HEX.out.2 (by rw [HEX.out.1]; exact HLX.out)).mono ?_
      rintro e wE ⟨rfl, p1, p2⟩
      have HEE : Aside0 (Wr B wb bb (bs ++ digits n ++ (rows.take (i + 1)).flatMap encs) wE ∧ Wk B bb w wE) := ⟨by rw [HE.out, ← List.append_assoc, ← HEX.out.1]; exact p1, HI.out.2.trans ((Wk.of_below HI.out.1.le (alloc_below _ _)).trans p2)⟩
      clear p1 p2
      go_wp2
      go_roundw
      case rel => exact ⟨i + 1, by omega, by go_num, HEE⟩
      case measure => simp [intOf]; omega
    · obtain rfl : i = n := by omega
      have HFL : Aside0 (rows.take i = rows) := ⟨List.take_of_length_le (by have := HN.out; omega)⟩
      go_wp2
      go_end0
      have := HI.out
      rw [HFL.out] at this
      refine ⟨rfl, ?_, this.2⟩
      unfold encRows
      rw [← HN.out, ← List.append_assoc]
      exact this.1
theorem zeros_quant : (#[.string ⟨#[]⟩, .string ⟨#[]⟩, .string ⟨#[]⟩, .int .i64 0, .int .i64 0, .int .i64 0] : Array Value) = (ks_quant.map zeroV).toArray := rfl
set_option maxHeartbeats 8000000 in
set_option maxRecDepth 100000 in
theorem list_quant_r {wb hb j : Nat} {s : Rd} {HT : TypeId} {hcs : List Value} {w : World} (h : Rw wb s w) (hh : Cs hb HT hcs w) (hj : hcs[j]? = some (.slice none 0 0)) (hne : hb ≠ wb) (hHT : HT ≠ 73) (hl : s.D.length ≤ 100000000) :
    Calls Tryz.prog 64 #[.pointer (some ⟨wb, 0, none⟩), .pointer (some ⟨hb, j, none⟩), .func (.func 65) #[] #[]] w (ListRd wb hb j HT 73 6 hcs (rdList ks_quant s) w) := by
  obtain ⟨i0, hI0, hz0, hz1, hz2⟩ := infoParts info_quant
  obtain ⟨tn, htn⟩ : ∃ tn, tn = (takeN s).1 := ⟨_, rfl⟩
  obtain ⟨s1, hs1⟩ : ∃ s1, s1 = (takeN s).2 := ⟨_, rfl⟩
  obtain ⟨s2, hs2⟩ : ∃ s2, s2 = (counted s).2 := ⟨_, rfl⟩
  have ctk := take_r h (by omega)
  rw [← htn, ← hs1] at ctk
  have htl : tn < 9223372036854775808 := by rw [htn]; exact take_lt s
  have hsl : s1.D.length ≤ 100000000 := by rw [hs1]; exact Nat.le_trans (take_len s) hl
  have hjl : j < hcs.length := (List.getElem?_eq_some_iff.1 hj).1
  have HG : Aside0 (rdList ks_quant s = rdRows ks_quant tn s2) := ⟨by unfold rdList; rw [hs2, htn]; rfl⟩
  have HE2 : Aside0 (s2 = if s1.D.length < tn then s1.fail else s1) := ⟨by rw [hs2, hs1, htn]; rfl⟩
  have hwc := h.cells.1
  have HH := Aside0.mk (And.intro hh hj)
  have HNE := Aside0.mk (And.intro hne hHT)
  have HHT := Aside0.mk (show hb < w.heap.size ∧ wb < w.heap.size from ⟨hh.lt, Cs.lt h⟩)
  clear h hh hj hHT htn hs1 hs2
  go_enter Tryz.func64, Tryz.ntmps64
  go_wp2_with (fail)
  refine ctk.mono ?_
  rintro e wA ⟨rfl, p1, p2⟩
  have HA : Aside0 (Rw wb s1 wA ∧ Cs hb HT hcs wA ∧ Fr (fun i => i = wb ∨ i = hb) w wA) := ⟨p1, HH.out.1.keep (p2.block hb HH.out.1.lt hne), ⟨p2.os, p2.tape, p2.output, p2.size, fun i hi hn => p2.block i hi fun q => hn (.inl q)⟩⟩
  clear p1 p2 ctk
  obtain ⟨a0, a1, a2, af⟩ := HA.out.1.cells
  obtain ⟨D1, hD1⟩ : ∃ D1 : ByteArray, D1 = ⟨s1.D.toArray⟩ := ⟨_, rfl⟩
  have hD1s : D1.size = s1.D.length := by rw [hD1, size_mk]
  rw [← hD1] at a1
  have HDS := Aside0.mk hD1s
  clear hD1 hD1s
  have hbd : s2.bad = true ∨ tn ≤ 100000000 := by
    rw [HE2.out]
    by_cases hgt : s1.D.length < tn
    · rw [if_pos hgt]; exact .inl rfl
    · right; omega
  have HBD := Aside0.mk hbd
  clear hbd
  go_upto_if 47 with (fail)
  go_cut [] (fun wx => LRd wb hb j HT 73 6 hcs w.heap.size (s2, []) (.slice none 0 0) w wx)
  case first =>
    have hset : hcs.set j (.slice none 0 0) = hcs := by
      apply List.ext_getElem?
      intro q
      rw [List.getElem?_set]
      split
      · rename_i hq
        subst hq
        exact HH.out.2.symm
      · rfl
    have HSET := Aside0.mk hset
    clear hset
    by_cases hgt : s1.D.length < tn
    · have hgt' : (D1.size : Int) < (tn : Int) := by have := HDS.out; omega
      have HGT := Aside0.mk hgt
      clear hgt
      go_wp2
      go_meet
      refine ⟨?_, ?_, World.ownsRow_nil _ _ _ _, HA.out.2.2.set _ _ (.inl (.inl rfl))⟩
      · show Rw wb s2 _
        rw [HE2.out, if_pos HGT.out]
        exact HA.out.1.isBad
      · rw [HSET.out]
        exact Cs.other HA.out.2.1 _ _ (Ne.symm hne)
    · have hgt' : ¬(D1.size : Int) < (tn : Int) := by have := HDS.out; omega
      have HGT := Aside0.mk hgt
      clear hgt
      go_wp2
      go_meet
      refine ⟨?_, ?_, World.ownsRow_nil _ _ _ _, HA.out.2.2⟩
      · show Rw wb s2 _
        rw [HE2.out, if_neg HGT.out]
        exact HA.out.1
      · rw [HSET.out]
        exact HA.out.2.1
  case rest =>
    have HX := Aside0.mk hcut
    clear hcut a0 a1 a2 af HA hwc
    go_wp2_with (fail)
    go_loopw [9] (fun v9 wr => ∃ (i : Nat) (st : Rd) (rows : List (List Value)) (v : Value), i ≤ tn ∧ rows.length = i ∧ v9 = .int .i64 i ∧ Aside0 (st.D.length ≤ 100000000) ∧ Aside0 (st.bad = true ∨ tn ≤ 100000000) ∧ Aside0 (rdRows ks_quant tn s2 = ((rdRows ks_quant (tn - i) st).1, rows ++ (rdRows ks_quant (tn - i) st).2)) ∧ Aside0 (LRd wb hb j HT 73 6 hcs w.heap.size (st, rows) v w wr)) (fun v9 _ => tn - (intOf v9).toNat)
    case atStart => exact ⟨0, s2, [], _, by omega, rfl, rfl, ⟨by rw [HE2.out]; split <;> exact hsl⟩, HBD, ⟨by simp⟩, HX⟩
    case round =>
      obtain ⟨i, st, rows, v, hi, hrl, rfl, HSL, HBT, HRE, HI⟩ := hrel
      clear HX HBD
      obtain ⟨A, c, rfl⟩ : ∃ A c, v = .slice A i c := by rw [← hrl]; exact own_shape HI.out.row
      have HRL := Aside0.mk hrl
      clear hrl
      obtain ⟨b0, b1, b2, bf⟩ := HI.out.rw.cells
      obtain ⟨qb, hbad⟩ : ∃ q, q = st.bad := ⟨_, rfl⟩
      rw [show (st, rows).1.bad = qb from hbad.symm] at b2
      have HBB := Aside0.mk hbad
      clear hbad
      cases qb with
      | true =>
        have HFN : Aside0 (rdList ks_quant s = (st, rows)) := ⟨by
          rw [HG.out, HRE.out]
          rw [rows_done _ _ st HBB.out.symm]
          simp⟩
        by_cases hlt : i < tn
        all_goals
          go_wp2
          go_end0
          refine ⟨rfl, .slice A i c, ?_⟩
          rw [HFN.out]
          exact HI.out
      | false =>
        by_cases hlt : i < tn
        · have htb : tn ≤ 100000000 := HBT.out.resolve_left (by rw [← HBB.out]; simp)
          have HNX : Aside0 (rdRows ks_quant tn s2 = ((rdRows ks_quant (tn - (i + 1)) (rds ks_quant st (ks_quant.map zeroV)).1).1, (rows ++ [(rds ks_quant st (ks_quant.map zeroV)).2]) ++ (rdRows ks_quant (tn - (i + 1)) (rds ks_quant st (ks_quant.map zeroV)).1).2)) := ⟨by
            rw [HRE.out, show tn - i = (tn - (i + 1)) + 1 from by omega]
            rw [rows_more _ _ st HBB.out.symm]
            simp⟩
          have HFX : Aside0 (Fits ks_quant (rds ks_quant st (ks_quant.map zeroV)).2) := ⟨fits_rds _ _ _ (fits_zero _)⟩
          have HDL : Aside0 ((rds ks_quant st (ks_quant.map zeroV)).1.D.length ≤ 100000000) := ⟨by
            rw [← rd_all _ _ _ (by simp)]
            exact Nat.le_trans (rdAt_len _ _).1 HSL.out⟩
          have HRD : Aside0 (rdAt sc_quant (st, ks_quant.map zeroV) = rds ks_quant st (ks_quant.map zeroV)) := ⟨by rw [sc_quant_all]; exact rd_all _ _ _ (by simp)⟩
          obtain ⟨p, hp⟩ : ∃ p, p = rds ks_quant st (ks_quant.map zeroV) := ⟨_, rfl⟩
          rw [← hp] at HNX HFX HRD HDL
          clear hp HRE
          obtain ⟨st', x⟩ := p
          simp only at HNX HFX HDL
          have hlw := Cs.lt HI.out.rw
          have hlh := HI.out.cs.lt
          go_wp2_with (fail)
          have HZ : Aside0 (Rw wb st (wr.alloc (.cells #[.string ⟨#[]⟩, .string ⟨#[]⟩, .string ⟨#[]⟩, .int .i64 0, .int .i64 0, .int .i64 0] 73)) ∧ Cs wr.heap.size 73 (ks_quant.map zeroV) (wr.alloc (.cells #[.string ⟨#[]⟩, .string ⟨#[]⟩, .string ⟨#[]⟩, .int .i64 0, .int .i64 0, .int .i64 0] 73))) := ⟨Rw.below HI.out.rw (alloc_below _ _), cs_alloc _ _ _ _ zeros_quant⟩
          have HSC : Aside0 (∀ y ∈ sc_quant, y.2 < (ks_quant.map zeroV).length) := ⟨by decide⟩
          refine (quant_r HZ.out.1 HZ.out.2 (by omega) HSC.out (Nat.le_trans HSL.out (by decide))).mono ?_
          rintro e wE ⟨rfl, p1, p2, p3⟩
          rw [HRD.out] at p1 p2
          simp only at p1 p2
          have HE : Aside0 (Rw wb st' wE ∧ Cs wr.heap.size 73 x wE ∧ Cs hb HT (hcs.set j (.slice A i c)) wE ∧ wE.ownsRow w.heap.size 73 6 (.slice A i c) rows.length rows.flatten ∧ Fr (fun i => i = wb ∨ i = hb) w wE) := ⟨by
            have q1 : ∀ b, b < wr.heap.size → b ≠ wb → wE.heap[b]? = wr.heap[b]? := fun b hb' hbw => (p3.block b (by simp; omega) (by rintro (q | q) <;> omega)).trans ((alloc_below wr _).block b hb')
            refine ⟨p1, p2, HI.out.cs.keep (q1 hb hlh hne), own_same HI.out.row fun g hg => q1 g (HI.out.row.lt g hg).2 (fun q => own_ne HI.out.row HI.out.rw (by decide) (by rw [hg, q])), (HI.out.fr.trans (Fr.of_below (alloc_below wr _)) fun i hi => .inl hi).trans p3 fun i hi => ?_⟩
            rcases hi with rfl | rfl
            · exact .inl (.inl rfl)
            · exact .inr HI.out.fr.size⟩
          have hxl : x.length = 6 := fits_len HFX.out
          have HX1 : Aside0 (∀ v ∈ x, v.oneCell' = true) := ⟨fits_one HFX.out⟩
          clear p1 p2 p3 HZ
          have c0 : wE.cell? ⟨hb, j, none⟩ = some (.slice A i c) := by rw [HE.out.2.2.1.cell, List.getElem?_set_self hjl]
          have f0 : wE.frozen? ⟨hb, j, none⟩ = false := HE.out.2.2.1.frozen j
          have hXB : Aside0 (∀ g, (Value.slice A i c).ownBlock = some g → g < wr.heap.size) := ⟨fun g hg => (HI.out.row.lt g hg).2⟩
          have hnh : (Value.slice A i c).ownBlock ≠ some hb := own_ne HE.out.2.2.2.1 HE.out.2.2.1 (Ne.symm HNE.out.2)
          obtain ⟨XB, hxb⟩ : ∃ XB, XB = wr.heap.size := ⟨_, rfl⟩
          rw [← hxb]
          rw [← hxb] at HE hXB
          have hnx : (Value.slice A i c).ownBlock ≠ some XB := fun e => by have := hXB.out XB e; omega
          have r0 : wE.rangeAt XB 0 x := fun q v hv => by rw [Nat.zero_add, HE.out.2.1.cell]; exact hv
          have hxlt := HE.out.2.1.lt
          have hhlt := HE.out.2.2.1.lt
          have hwlt := Cs.lt HE.out.1
          have hu := Tryz.underlying73
          have hi' : (Tryz.prog.info? 73).map (·.size) = some x.length := by rw [size_quant, hxl]
          have HXL := Aside0.mk hxl
          have HBS : Aside0 (w.heap.size ≤ wE.heap.size) := ⟨HE.out.2.2.2.2.size⟩
          have HXH : Aside0 (hb < XB) := ⟨by rw [hxb]; exact hlh⟩
          clear hxb hxl HI
          go_upto_region 15 with (fail)
          obtain ⟨WA, hWA⟩ : ∃ WA, WA = wE.drew.alloc (.cells x.toArray 73) := ⟨_, rfl⟩
          have HWB : Aside0 (Below wE.heap.size wE WA) := ⟨by rw [hWA]; have b := alloc_below wE (.cells x.toArray 73); exact ⟨b.os, b.tape, b.output, b.size, b.block⟩⟩
          have HRO : Aside0 (WA.ownsRow w.heap.size 73 6 (.slice A i c) i rows.flatten) := ⟨by have := HE.out.2.2.2.1.drew.alloc (.cells x.toArray 73); rw [HRL.out] at this; rw [hWA]; exact this⟩
          have HSZ : Aside0 (WA.heap.size = wE.heap.size + 1) := ⟨by rw [hWA]; simp⟩
          have HBA : Aside0 (w.heap.size ≤ WA.heap.size) := ⟨by have := HSZ.out; have := HBS.out; omega⟩
          have HRA : Aside0 (WA.rangeAt XB 0 x) := ⟨fun q v hv => by rw [World.cell?_of_block (HWB.out.block XB hxlt)]; exact r0 q v hv⟩
          have HFA : Aside0 (WA.frozen? ⟨hb, j, none⟩ = false) := ⟨by rw [World.frozen?_of_block (HWB.out.block hb hhlt)]; exact f0⟩
          have HCA : Aside0 (WA.cell? ⟨hb, j, none⟩ = some (.slice A i c)) := ⟨by rw [World.cell?_of_block (HWB.out.block hb hhlt)]; exact c0⟩
          have hxh : XB ≠ hb := fun e => by have := HXH.out; omega
          subst hWA
          refine wp_region_held_drew (S := (fun w' => w'.rangeAt XB 0 x)) (by kernel_rfl) ?_ (fun hHeld => ?_)
          · exact r0
          refine' wpAnyH_take (i := 0) (v := _) rfl (by kernel_rfl) (by kernel_rfl) (by kernel_rfl) (fun _ _ _ h => h) ?hy1 (by assumption) ?rs1
          case hy1 => exact .inl ⟨by rfl, by intro w' hSw; go_simp; (try with_reducible rfl)⟩
          (try simp only [Act.put, List.setIfInBounds_toArray, List.set_cons_zero, List.set_cons_succ, List.getElem_toArray, List.getElem_cons_zero, List.getElem_cons_succ])
          refine' wpAnyH_take (i := 1) (v := _) rfl (by kernel_rfl) (by kernel_rfl) (by kernel_rfl) (fun _ _ _ h => h) ?hy2 (by assumption) ?rs2
          case hy2 => exact .inl ⟨by rfl, by intro w' hSw; go_simp; (try with_reducible rfl)⟩
          (try simp only [Act.put, List.setIfInBounds_toArray, List.set_cons_zero, List.set_cons_succ, List.getElem_toArray, List.getElem_cons_zero, List.getElem_cons_succ])
          refine' wpAnyH_take (i := 2) (v := _) rfl (by kernel_rfl) (by kernel_rfl) (by kernel_rfl) (fun _ _ _ h => h) ?hy3 (by assumption) ?rs3
          case hy3 => exact .inl ⟨by rfl, by intro w' hSw; go_simp; (try with_reducible rfl)⟩
          (try simp only [Act.put, List.setIfInBounds_toArray, List.set_cons_zero, List.set_cons_succ, List.getElem_toArray, List.getElem_cons_zero, List.getElem_cons_succ])
          refine' wpAnyH_take (i := 4) (v := _) rfl (by kernel_rfl) (by kernel_rfl) (by kernel_rfl) (fun _ _ _ h => h) ?hy4 (by assumption) ?rs4
          case hy4 =>
            refine yieldsIf_load_mid ?ya 73 (.tmp 10) ?yb XB 0 ?yc x _ ?yd hu rfl hi'
            case ya => rfl
            case yb => rfl
            case yc => rfl
            case yd => exact fun w' hS => hS
          (try simp only [Act.put, List.setIfInBounds_toArray, List.set_cons_zero, List.set_cons_succ, List.getElem_toArray, List.getElem_cons_zero, List.getElem_cons_succ])
          refine wpAnyH_ready (rs := [3, 5]) (by kernel_rfl) (by simp) ?_
          refine AllReadyH.cons rfl (fun K hK => ?_) (AllReadyH.cons rfl (fun K hK => ?_) AllReadyH.nil)
          · go_simp
            refine hK.out _ _ ?_ (fun hHeld => ?_)
            · exact r0
            clear hK K
            (try simp only [Act.put, List.setIfInBounds_toArray, List.set_cons_zero, List.set_cons_succ, List.getElem_toArray, List.getElem_cons_zero, List.getElem_cons_succ])
            refine wpAnyH_ready (rs := [5]) (by kernel_rfl) (by simp) ?_
            refine AllReadyH.cons rfl (fun K hK => ?_) AllReadyH.nil
            refine step_build_one rfl 26 73 (.tmp 70) rfl x rfl i0 _ 6 Tryz.underlying26 hI0 hz0 hz1 HXL.out (by decide) (by decide) ?_
            refine hK.out _ _ ?_ (fun hHeld => ?_)
            · exact HRA.out
            clear hK K
            (try simp only [Act.put, List.setIfInBounds_toArray, List.set_cons_zero, List.set_cons_succ, List.getElem_toArray, List.getElem_cons_zero, List.getElem_cons_succ])
            refine wpAnyH_ready (rs := [6]) (by kernel_rfl) (by simp) ?_
            refine AllReadyH.cons rfl (fun K hK => ?_) AllReadyH.nil
            refine step_append_lies _ rfl (.tmp 69) (.tmp 71) 26 rfl w.heap.size 73 i0 _ 6 72 Tryz.underlying26 hI0 hz0 hz1 hz2 rfl (by decide) (.slice A i c) i rows.flatten rfl HRO.out ⟨wE.heap.size, 0, none⟩ 1 1 x rfl (by rw [HXL.out]) (World.news_of_block (cs := x.toArray) (t := 73) (fr := (0, 0)) (heap_alloc_new wE _)) HX1.out (by decide) (by unfold maxLen; omega) (by omega) HBA.out (wE.heap.size + 1) HSZ.out ?_
            intro gg cap w1 hown1 hgrow hat hlt1
            have HOW := Aside0.mk (And.intro hown1 (And.intro hgrow (And.intro hat hlt1)))
            have g1 : w1.rangeAt XB 0 x := fun q v hv => by
              rw [HOW.out.2.1.cell_far _ (Nat.lt_of_lt_of_le hxlt HWB.out.size) (Ne.symm hnx)]
              exact HRA.out q v hv
            have g2 : w1.frozen? ⟨hb, j, none⟩ = false := by
              rw [HOW.out.2.1.frozen_far _ (Nat.lt_of_lt_of_le hhlt HWB.out.size) (Ne.symm hnh)]
              exact HFA.out
            have g3 : w1.cell? ⟨hb, j, none⟩ = some (.slice A i c) := by
              rw [HOW.out.2.1.cell_far _ (Nat.lt_of_lt_of_le hhlt HWB.out.size) (Ne.symm hnh)]
              exact HCA.out
            clear hown1 hgrow hat
            refine hK.out _ _ ?_ (fun hHeld => ?_)
            · exact g1
            clear hK K
            (try simp only [Act.put, List.setIfInBounds_toArray, List.set_cons_zero, List.set_cons_succ, List.getElem_toArray, List.getElem_cons_zero, List.getElem_cons_succ])
            refine' wpAnyH_take (i := 7) (v := _) rfl (by kernel_rfl) (by kernel_rfl) (by kernel_rfl) (fun _ _ _ h => h) ?hy5 (by assumption) ?rs5
            case hy5 => exact .inl ⟨by rfl, by intro w' hSw; go_simp; (try with_reducible rfl)⟩
            (try simp only [Act.put, List.setIfInBounds_toArray, List.set_cons_zero, List.set_cons_succ, List.getElem_toArray, List.getElem_cons_zero, List.getElem_cons_succ])
            refine wpAnyH_ready (rs := [8]) (by kernel_rfl) (by simp) ?_
            refine AllReadyH.cons rfl (fun K hK => ?_) AllReadyH.nil
            go_simp
            refine hK.out _ _ ?_ (fun hHeld => ?_)
            · exact fun q v hv => by rw [World.cell?_of_block (Below.heap_setCell w1 ⟨hb, j, none⟩ _ XB hxh)]; exact g1 q v hv
            clear hK K
            (try simp only [Act.put, List.setIfInBounds_toArray, List.set_cons_zero, List.set_cons_succ, List.getElem_toArray, List.getElem_cons_zero, List.getElem_cons_succ])
            refine wpAnyH_done (by kernel_rfl) ?_ _
            go_wp2
            go_roundw
            case rel =>
              have hgg : (Value.slice (some ⟨gg, 0, none⟩) (i + 1) cap).ownBlock ≠ some hb := by
                intro e
                have e' : gg = hb := by simpa [Value.ownBlock] using e
                rcases HOW.out.2.2.1 with q | q
                · exact hnh (by rw [q, e'])
                · omega
              refine ⟨i + 1, st', rows ++ [x], .slice (some ⟨gg, 0, none⟩) (i + 1) cap, by omega, by simp [HRL.out], by go_num, HDL, ⟨.inr htb⟩, HNX, ⟨?_⟩⟩
              have hr' := HRL.out
              subst hr'
              exact (LRd.push (st' := st') rfl HNE.out.2 (by decide) (Rw.below HE.out.1 HWB.out) (HE.out.2.2.1.keep (HWB.out.block hb hhlt)) HRO.out (HE.out.2.2.2.2.trans (Fr.of_below HWB.out) fun i hi => .inl hi) HOW.out.1 HOW.out.2.1 HNE.out.1 hgg)
            case measure => simp [intOf]; omega
          · refine step_build_one rfl 26 73 (.tmp 70) rfl x rfl i0 _ 6 Tryz.underlying26 hI0 hz0 hz1 HXL.out (by decide) (by decide) ?_
            refine hK.out _ _ ?_ (fun hHeld => ?_)
            · exact HRA.out
            clear hK K
            (try simp only [Act.put, List.setIfInBounds_toArray, List.set_cons_zero, List.set_cons_succ, List.getElem_toArray, List.getElem_cons_zero, List.getElem_cons_succ])
            have k0 := HCA.out
            refine wpAnyH_ready (rs := [3]) (by kernel_rfl) (by simp) ?_
            refine AllReadyH.cons rfl (fun K hK => ?_) AllReadyH.nil
            go_simp
            refine hK.out _ _ ?_ (fun hHeld => ?_)
            · exact HRA.out
            clear hK K
            (try simp only [Act.put, List.setIfInBounds_toArray, List.set_cons_zero, List.set_cons_succ, List.getElem_toArray, List.getElem_cons_zero, List.getElem_cons_succ])
            refine wpAnyH_ready (rs := [6]) (by kernel_rfl) (by simp) ?_
            refine AllReadyH.cons rfl (fun K hK => ?_) AllReadyH.nil
            refine step_append_lies _ rfl (.tmp 69) (.tmp 71) 26 rfl w.heap.size 73 i0 _ 6 72 Tryz.underlying26 hI0 hz0 hz1 hz2 rfl (by decide) (.slice A i c) i rows.flatten rfl HRO.out ⟨wE.heap.size, 0, none⟩ 1 1 x rfl (by rw [HXL.out]) (World.news_of_block (cs := x.toArray) (t := 73) (fr := (0, 0)) (heap_alloc_new wE _)) HX1.out (by decide) (by unfold maxLen; omega) (by omega) HBA.out (wE.heap.size + 1) HSZ.out ?_
            intro gg cap w1 hown1 hgrow hat hlt1
            have HOW := Aside0.mk (And.intro hown1 (And.intro hgrow (And.intro hat hlt1)))
            have g1 : w1.rangeAt XB 0 x := fun q v hv => by
              rw [HOW.out.2.1.cell_far _ (Nat.lt_of_lt_of_le hxlt HWB.out.size) (Ne.symm hnx)]
              exact HRA.out q v hv
            have g2 : w1.frozen? ⟨hb, j, none⟩ = false := by
              rw [HOW.out.2.1.frozen_far _ (Nat.lt_of_lt_of_le hhlt HWB.out.size) (Ne.symm hnh)]
              exact HFA.out
            have g3 : w1.cell? ⟨hb, j, none⟩ = some (.slice A i c) := by
              rw [HOW.out.2.1.cell_far _ (Nat.lt_of_lt_of_le hhlt HWB.out.size) (Ne.symm hnh)]
              exact HCA.out
            clear hown1 hgrow hat
            refine hK.out _ _ ?_ (fun hHeld => ?_)
            · exact g1
            clear hK K
            (try simp only [Act.put, List.setIfInBounds_toArray, List.set_cons_zero, List.set_cons_succ, List.getElem_toArray, List.getElem_cons_zero, List.getElem_cons_succ])
            refine' wpAnyH_take (i := 7) (v := _) rfl (by kernel_rfl) (by kernel_rfl) (by kernel_rfl) (fun _ _ _ h => h) ?hy6 (by assumption) ?rs6
            case hy6 => exact .inl ⟨by rfl, by intro w' hSw; go_simp; (try with_reducible rfl)⟩
            (try simp only [Act.put, List.setIfInBounds_toArray, List.set_cons_zero, List.set_cons_succ, List.getElem_toArray, List.getElem_cons_zero, List.getElem_cons_succ])
            refine wpAnyH_ready (rs := [8]) (by kernel_rfl) (by simp) ?_
            refine AllReadyH.cons rfl (fun K hK => ?_) AllReadyH.nil
            go_simp
            refine hK.out _ _ ?_ (fun hHeld => ?_)
            · exact fun q v hv => by rw [World.cell?_of_block (Below.heap_setCell w1 ⟨hb, j, none⟩ _ XB hxh)]; exact g1 q v hv
            clear hK K
            (try simp only [Act.put, List.setIfInBounds_toArray, List.set_cons_zero, List.set_cons_succ, List.getElem_toArray, List.getElem_cons_zero, List.getElem_cons_succ])
            refine wpAnyH_done (by kernel_rfl) ?_ _
            go_wp2
            go_roundw
            case rel =>
              have hgg : (Value.slice (some ⟨gg, 0, none⟩) (i + 1) cap).ownBlock ≠ some hb := by
                intro e
                have e' : gg = hb := by simpa [Value.ownBlock] using e
                rcases HOW.out.2.2.1 with q | q
                · exact hnh (by rw [q, e'])
                · omega
              refine ⟨i + 1, st', rows ++ [x], .slice (some ⟨gg, 0, none⟩) (i + 1) cap, by omega, by simp [HRL.out], by go_num, HDL, ⟨.inr htb⟩, HNX, ⟨?_⟩⟩
              have hr' := HRL.out
              subst hr'
              exact (LRd.push (st' := st') rfl HNE.out.2 (by decide) (Rw.below HE.out.1 HWB.out) (HE.out.2.2.1.keep (HWB.out.block hb hhlt)) HRO.out (HE.out.2.2.2.2.trans (Fr.of_below HWB.out) fun i hi => .inl hi) HOW.out.1 HOW.out.2.1 HNE.out.1 hgg)
            case measure => simp [intOf]; omega
        · obtain rfl : i = tn := by omega
          have HFN : Aside0 (rdList ks_quant s = (st, rows)) := ⟨by
            rw [HG.out, HRE.out, Nat.sub_self]
            simp [rdRows]⟩
          go_wp2
          go_end0
          refine ⟨rfl, .slice A i c, ?_⟩
          rw [HFN.out]
          exact HI.out
/-! ### list: claim -/
def ks_claim : List K := [.t, .n, .t, .t, .t, .n, .n, .n]
theorem sc_claim_all : sc_claim = scOf 0 ks_claim := by rfl
theorem size_claim : (Tryz.prog.info? 88).map (·.size) = some 8 := by kernel_rfl
theorem info_claim : (Tryz.prog.info? 88).map (fun i => (i.zero, i.size, i.bytes)) = some (some (.agg #[.string ⟨#[]⟩, .int .i64 0, .string ⟨#[]⟩, .string ⟨#[]⟩, .string ⟨#[]⟩, .int .i64 0, .int .i64 0, .int .i64 0]), 8, 96) := by kernel_rfl
set_option maxHeartbeats 8000000 in
set_option maxRecDepth 100000 in
theorem list_claim_w {B wb bb hb j c : Nat} {A : Option Addr} {bs : List UInt8} {rows : List (List Value)} {w : World} (h : Wr B wb bb bs w) (hc : w.cell? ⟨hb, j, none⟩ = some (.slice A rows.length c)) (hst : Stay B bb w hb) (hr : RowsAt B bb w A 8 rows)
    (hf : ∀ x ∈ rows, Fits ks_claim x) (hn : rows.length ≤ c) (hn2 : rows.length ≤ 100000000) (hl : bs.length + (encRows rows).length ≤ 140737488355328) :
    Calls Tryz.prog 75 #[.pointer (some ⟨wb, 0, none⟩), .pointer (some ⟨hb, j, none⟩), .func (.func 76) #[] #[]] w (Writ B wb bb (bs ++ encRows rows) w) := by
  obtain ⟨n, hnn⟩ : ∃ n, n = rows.length := ⟨_, rfl⟩
  rw [← hnn] at hc hn hn2
  have HN := Aside0.mk hnn
  have H := Aside0.mk h
  have HST := Aside0.mk hst
  have HR := Aside0.mk hr
  have HF := Aside0.mk hf
  have HL : Aside0 (bs.length + (digits n).length + (rows.flatMap encs).length ≤ 140737488355328) := ⟨by unfold encRows at hl; rw [List.length_append, ← hnn] at hl; omega⟩
  have hwc := h.out
  have HC := Aside0.mk hc
  clear h hst hr hf hl hnn
  go_enter Tryz.func75, Tryz.ntmps75
  go_upto_region 1 with (fail)
  go_region_held3 (fun w' => w'.cell? ⟨wb, 0, none⟩ = some (.pointer (some ⟨bb, 0, none⟩)) ∧ w'.cell? ⟨hb, j, none⟩ = some (.slice A n c)) (first | (go_split_ands; assumption) | (refine ⟨?_, ?_⟩ <;> assumption) | go_keep) (first
    | (go_at_call 94; refine (put_any n (by omega) _ _ (by simp)).mono ?_; rintro e wB ⟨rfl, hk⟩; have hk' : Below w.heap.size w wB := ((alloc_below w _).trans (⟨hk.os, hk.tape, hk.output, hk.size, fun i hi => hk.block i (by simp; omega)⟩ : Below w.heap.size (w.alloc _) wB)); have HB : Aside0 (Wr B wb bb bs wB ∧ Wk B bb w wB) := ⟨H.out.below hk', Wk.of_below H.out.le hk'⟩; clear hk hk'; have g0 := HB.out.1.out; have g1 : wB.cell? ⟨hb, j, none⟩ = some (.slice A n c) := by rw [Stay.cell HST.out HB.out.2]; exact HC.out)
    | (go_at_call 93; refine (HB.out.1.write (digits n) (by have := HL.out; omega)).mono ?_; rintro e wC ⟨⟨z', rfl⟩, hk1, hk2⟩; have HCC : Aside0 (Wr B wb bb (bs ++ digits n) wC ∧ Wk B bb w wC) := ⟨hk1, HB.out.2.trans hk2⟩; clear hk1 hk2; have k0 := HCC.out.1.out; have k1 : wC.cell? ⟨hb, j, none⟩ = some (.slice A n c) := by rw [Stay.cell HST.out HCC.out.2]; exact HC.out)
    | fail)
  go_wp2_with (fail)
  go_loopw [31] (fun v31 wr => ∃ i : Nat, i ≤ n ∧ v31 = .int .i64 i ∧ Aside0 (Wr B wb bb (bs ++ digits n ++ (rows.take i).flatMap encs) wr ∧ Wk B bb w wr)) (fun v31 _ => n - (intOf v31).toNat)
  case atStart => exact ⟨0, by omega, rfl, ⟨by simpa using HCC.out.1, HCC.out.2⟩⟩
  case round =>
    obtain ⟨i, hi, rfl, HI⟩ := hrel
    clear g0 g1 k0 k1 HB HCC
    by_cases hlt : i < n
    · have hil : i < rows.length := by have := HN.out; omega
      obtain ⟨x, hx⟩ : ∃ x, rows[i]? = some x := ⟨_, List.getElem?_eq_getElem hil⟩
      have hxf := HF.out x (List.mem_of_getElem? hx)
      obtain ⟨ad, rfl, hsa, hca⟩ := (HR.out.next HI.out.2).at_ (by omega)
      have hcx := hca i x hx
      have hxl : x.length = 8 := fits_len hxf
      have HE : Aside0 ((rows.take (i + 1)).flatMap encs = (rows.take i).flatMap encs ++ encs x) := ⟨rows_take rows i x hx⟩
      have HLX : Aside0 ((bs ++ digits n ++ (rows.take i).flatMap encs).length + (encs x).length ≤ 140737488355328) := ⟨by
        have h1 := HL.out
        have h2 := rows_le rows (i + 1)
        rw [HE.out, List.length_append] at h2
        simp only [List.length_append]; omega⟩
      have HXF := Aside0.mk hxf
      have HXL := Aside0.mk hxl
      have HCX : Aside0 (∀ m v, x[m]? = some v → wr.cell? ((ad.add (i * 8)).add m) = some v) := ⟨fun m v hv => by rw [add_of_add]; exact hcx m v hv⟩
      have HX1 : Aside0 (x.toArray.all (·.oneCell') = true) := ⟨all_oneCell_toArray (fits_one hxf)⟩
      clear hx hxf hsa hca hcx hxl
      go_wp2_with (first
        | ((with_reducible refine wpList_load_at (op := ⟨some 34, _, _, _, _, _⟩) ?a1 88 (.tmp 33) ?a2 (ad.add (i * 8)) ?a3 x _ HCX.out Tryz.underlying88 ?a4 ?a5 ?a6); (case a1 => rfl); (case a2 => rfl); (case a3 => rfl); (case a4 => rfl); (case a5 => (rw [size_claim, HXL.out])))
        | ((with_reducible refine wpList_store_new (op := ⟨none, Op.store _ (.tmp 7) (.tmp 34), _, _, _, _⟩) ?b1 88 (.tmp 7) (.tmp 34) ?b2 #[.string ⟨#[]⟩, .int .i64 0, .string ⟨#[]⟩, .string ⟨#[]⟩, .string ⟨#[]⟩, .int .i64 0, .int .i64 0, .int .i64 0] x.toArray ?b3 ?b4 ?b5 ?b6 HX1.out ?b7); (case b1 => rfl); (case b2 => rfl); (case b3 => rfl); (case b4 => rfl); (case b5 => (rw [size_claim]; simp [HXL.out])); (case b6 => simp [HXL.out])))
      have HWX : Aside0 (Wr B wb bb (bs ++ digits n ++ (rows.take i).flatMap encs) (wr.alloc (.cells x.toArray 88)) ∧ Cs wr.heap.size 88 x (wr.alloc (.cells x.toArray 88))) := ⟨HI.out.1.below (alloc_below _ _), cs_alloc _ _ _ _ rfl⟩
      have HEX : Aside0 (encAt sc_claim x = encs x ∧ OkAt sc_claim x) := ⟨by rw [sc_claim_all]; exact ⟨enc_all _ _ (by rw [HXL.out]; rfl), ok_all _ _ HXF.out⟩⟩
      refine (claim_w HWX.out.1 HWX.out.2 (by decide) (by decide) HEX.out.2 (by rw [HEX.out.1]; exact HLX.out)).mono ?_
      rintro e wE ⟨rfl, p1, p2⟩
      have HEE : Aside0 (Wr B wb bb (bs ++ digits n ++ (rows.take (i + 1)).flatMap encs) wE ∧ Wk B bb w wE) := ⟨by rw [HE.out, ← List.append_assoc, ← HEX.out.1]; exact p1, HI.out.2.trans ((Wk.of_below HI.out.1.le (alloc_below _ _)).trans p2)⟩
      clear p1 p2
      go_wp2
      go_roundw
      case rel => exact ⟨i + 1, by omega, by go_num, HEE⟩
      case measure => simp [intOf]; omega
    · obtain rfl : i = n := by omega
      have HFL : Aside0 (rows.take i = rows) := ⟨List.take_of_length_le (by have := HN.out; omega)⟩
      go_wp2
      go_end0
      have := HI.out
      rw [HFL.out] at this
      refine ⟨rfl, ?_, this.2⟩
      unfold encRows
      rw [← HN.out, ← List.append_assoc]
      exact this.1
theorem zeros_claim : (#[.string ⟨#[]⟩, .int .i64 0, .string ⟨#[]⟩, .string ⟨#[]⟩, .string ⟨#[]⟩, .int .i64 0, .int .i64 0, .int .i64 0] : Array Value) = (ks_claim.map zeroV).toArray := rfl
set_option maxHeartbeats 8000000 in
set_option maxRecDepth 100000 in
theorem list_claim_r {wb hb j : Nat} {s : Rd} {HT : TypeId} {hcs : List Value} {w : World} (h : Rw wb s w) (hh : Cs hb HT hcs w) (hj : hcs[j]? = some (.slice none 0 0)) (hne : hb ≠ wb) (hHT : HT ≠ 88) (hl : s.D.length ≤ 100000000) :
    Calls Tryz.prog 75 #[.pointer (some ⟨wb, 0, none⟩), .pointer (some ⟨hb, j, none⟩), .func (.func 76) #[] #[]] w (ListRd wb hb j HT 88 8 hcs (rdList ks_claim s) w) := by
  obtain ⟨i0, hI0, hz0, hz1, hz2⟩ := infoParts info_claim
  obtain ⟨tn, htn⟩ : ∃ tn, tn = (takeN s).1 := ⟨_, rfl⟩
  obtain ⟨s1, hs1⟩ : ∃ s1, s1 = (takeN s).2 := ⟨_, rfl⟩
  obtain ⟨s2, hs2⟩ : ∃ s2, s2 = (counted s).2 := ⟨_, rfl⟩
  have ctk := take_r h (by omega)
  rw [← htn, ← hs1] at ctk
  have htl : tn < 9223372036854775808 := by rw [htn]; exact take_lt s
  have hsl : s1.D.length ≤ 100000000 := by rw [hs1]; exact Nat.le_trans (take_len s) hl
  have hjl : j < hcs.length := (List.getElem?_eq_some_iff.1 hj).1
  have HG : Aside0 (rdList ks_claim s = rdRows ks_claim tn s2) := ⟨by unfold rdList; rw [hs2, htn]; rfl⟩
  have HE2 : Aside0 (s2 = if s1.D.length < tn then s1.fail else s1) := ⟨by rw [hs2, hs1, htn]; rfl⟩
  have hwc := h.cells.1
  have HH := Aside0.mk (And.intro hh hj)
  have HNE := Aside0.mk (And.intro hne hHT)
  have HHT := Aside0.mk (show hb < w.heap.size ∧ wb < w.heap.size from ⟨hh.lt, Cs.lt h⟩)
  clear h hh hj hHT htn hs1 hs2
  go_enter Tryz.func75, Tryz.ntmps75
  go_wp2_with (fail)
  refine ctk.mono ?_
  rintro e wA ⟨rfl, p1, p2⟩
  have HA : Aside0 (Rw wb s1 wA ∧ Cs hb HT hcs wA ∧ Fr (fun i => i = wb ∨ i = hb) w wA) := ⟨p1, HH.out.1.keep (p2.block hb HH.out.1.lt hne), ⟨p2.os, p2.tape, p2.output, p2.size, fun i hi hn => p2.block i hi fun q => hn (.inl q)⟩⟩
  clear p1 p2 ctk
  obtain ⟨a0, a1, a2, af⟩ := HA.out.1.cells
  obtain ⟨D1, hD1⟩ : ∃ D1 : ByteArray, D1 = ⟨s1.D.toArray⟩ := ⟨_, rfl⟩
  have hD1s : D1.size = s1.D.length := by rw [hD1, size_mk]
  rw [← hD1] at a1
  have HDS := Aside0.mk hD1s
  clear hD1 hD1s
  have hbd : s2.bad = true ∨ tn ≤ 100000000 := by
    rw [HE2.out]
    by_cases hgt : s1.D.length < tn
    · rw [if_pos hgt]; exact .inl rfl
    · right; omega
  have HBD := Aside0.mk hbd
  clear hbd
  go_upto_if 47 with (fail)
  go_cut [] (fun wx => LRd wb hb j HT 88 8 hcs w.heap.size (s2, []) (.slice none 0 0) w wx)
  case first =>
    have hset : hcs.set j (.slice none 0 0) = hcs := by
      apply List.ext_getElem?
      intro q
      rw [List.getElem?_set]
      split
      · rename_i hq
        subst hq
        exact HH.out.2.symm
      · rfl
    have HSET := Aside0.mk hset
    clear hset
    by_cases hgt : s1.D.length < tn
    · have hgt' : (D1.size : Int) < (tn : Int) := by have := HDS.out; omega
      have HGT := Aside0.mk hgt
      clear hgt
      go_wp2
      go_meet
      refine ⟨?_, ?_, World.ownsRow_nil _ _ _ _, HA.out.2.2.set _ _ (.inl (.inl rfl))⟩
      · show Rw wb s2 _
        rw [HE2.out, if_pos HGT.out]
        exact HA.out.1.isBad
      · rw [HSET.out]
        exact Cs.other HA.out.2.1 _ _ (Ne.symm hne)
    · have hgt' : ¬(D1.size : Int) < (tn : Int) := by have := HDS.out; omega
      have HGT := Aside0.mk hgt
      clear hgt
      go_wp2
      go_meet
      refine ⟨?_, ?_, World.ownsRow_nil _ _ _ _, HA.out.2.2⟩
      · show Rw wb s2 _
        rw [HE2.out, if_neg HGT.out]
        exact HA.out.1
      · rw [HSET.out]
        exact HA.out.2.1
  case rest =>
    have HX := Aside0.mk hcut
    clear hcut a0 a1 a2 af HA hwc
    go_wp2_with (fail)
    go_loopw [9] (fun v9 wr => ∃ (i : Nat) (st : Rd) (rows : List (List Value)) (v : Value), i ≤ tn ∧ rows.length = i ∧ v9 = .int .i64 i ∧ Aside0 (st.D.length ≤ 100000000) ∧ Aside0 (st.bad = true ∨ tn ≤ 100000000) ∧ Aside0 (rdRows ks_claim tn s2 = ((rdRows ks_claim (tn - i) st).1, rows ++ (rdRows ks_claim (tn - i) st).2)) ∧ Aside0 (LRd wb hb j HT 88 8 hcs w.heap.size (st, rows) v w wr)) (fun v9 _ => tn - (intOf v9).toNat)
    case atStart => exact ⟨0, s2, [], _, by omega, rfl, rfl, ⟨by rw [HE2.out]; split <;> exact hsl⟩, HBD, ⟨by simp⟩, HX⟩
    case round =>
      obtain ⟨i, st, rows, v, hi, hrl, rfl, HSL, HBT, HRE, HI⟩ := hrel
      clear HX HBD
      obtain ⟨A, c, rfl⟩ : ∃ A c, v = .slice A i c := by rw [← hrl]; exact own_shape HI.out.row
      have HRL := Aside0.mk hrl
      clear hrl
      obtain ⟨b0, b1, b2, bf⟩ := HI.out.rw.cells
      obtain ⟨qb, hbad⟩ : ∃ q, q = st.bad := ⟨_, rfl⟩
      rw [show (st, rows).1.bad = qb from hbad.symm] at b2
      have HBB := Aside0.mk hbad
      clear hbad
      cases qb with
      | true =>
        have HFN : Aside0 (rdList ks_claim s = (st, rows)) := ⟨by
          rw [HG.out, HRE.out]
          rw [rows_done _ _ st HBB.out.symm]
          simp⟩
        by_cases hlt : i < tn
        all_goals
          go_wp2
          go_end0
          refine ⟨rfl, .slice A i c, ?_⟩
          rw [HFN.out]
          exact HI.out
      | false =>
        by_cases hlt : i < tn
        · have htb : tn ≤ 100000000 := HBT.out.resolve_left (by rw [← HBB.out]; simp)
          have HNX : Aside0 (rdRows ks_claim tn s2 = ((rdRows ks_claim (tn - (i + 1)) (rds ks_claim st (ks_claim.map zeroV)).1).1, (rows ++ [(rds ks_claim st (ks_claim.map zeroV)).2]) ++ (rdRows ks_claim (tn - (i + 1)) (rds ks_claim st (ks_claim.map zeroV)).1).2)) := ⟨by
            rw [HRE.out, show tn - i = (tn - (i + 1)) + 1 from by omega]
            rw [rows_more _ _ st HBB.out.symm]
            simp⟩
          have HFX : Aside0 (Fits ks_claim (rds ks_claim st (ks_claim.map zeroV)).2) := ⟨fits_rds _ _ _ (fits_zero _)⟩
          have HDL : Aside0 ((rds ks_claim st (ks_claim.map zeroV)).1.D.length ≤ 100000000) := ⟨by
            rw [← rd_all _ _ _ (by simp)]
            exact Nat.le_trans (rdAt_len _ _).1 HSL.out⟩
          have HRD : Aside0 (rdAt sc_claim (st, ks_claim.map zeroV) = rds ks_claim st (ks_claim.map zeroV)) := ⟨by rw [sc_claim_all]; exact rd_all _ _ _ (by simp)⟩
          obtain ⟨p, hp⟩ : ∃ p, p = rds ks_claim st (ks_claim.map zeroV) := ⟨_, rfl⟩
          rw [← hp] at HNX HFX HRD HDL
          clear hp HRE
          obtain ⟨st', x⟩ := p
          simp only at HNX HFX HDL
          have hlw := Cs.lt HI.out.rw
          have hlh := HI.out.cs.lt
          go_wp2_with (fail)
          have HZ : Aside0 (Rw wb st (wr.alloc (.cells #[.string ⟨#[]⟩, .int .i64 0, .string ⟨#[]⟩, .string ⟨#[]⟩, .string ⟨#[]⟩, .int .i64 0, .int .i64 0, .int .i64 0] 88)) ∧ Cs wr.heap.size 88 (ks_claim.map zeroV) (wr.alloc (.cells #[.string ⟨#[]⟩, .int .i64 0, .string ⟨#[]⟩, .string ⟨#[]⟩, .string ⟨#[]⟩, .int .i64 0, .int .i64 0, .int .i64 0] 88))) := ⟨Rw.below HI.out.rw (alloc_below _ _), cs_alloc _ _ _ _ zeros_claim⟩
          have HSC : Aside0 (∀ y ∈ sc_claim, y.2 < (ks_claim.map zeroV).length) := ⟨by decide⟩
          refine (claim_r HZ.out.1 HZ.out.2 (by omega) HSC.out (Nat.le_trans HSL.out (by decide))).mono ?_
          rintro e wE ⟨rfl, p1, p2, p3⟩
          rw [HRD.out] at p1 p2
          simp only at p1 p2
          have HE : Aside0 (Rw wb st' wE ∧ Cs wr.heap.size 88 x wE ∧ Cs hb HT (hcs.set j (.slice A i c)) wE ∧ wE.ownsRow w.heap.size 88 8 (.slice A i c) rows.length rows.flatten ∧ Fr (fun i => i = wb ∨ i = hb) w wE) := ⟨by
            have q1 : ∀ b, b < wr.heap.size → b ≠ wb → wE.heap[b]? = wr.heap[b]? := fun b hb' hbw => (p3.block b (by simp; omega) (by rintro (q | q) <;> omega)).trans ((alloc_below wr _).block b hb')
            refine ⟨p1, p2, HI.out.cs.keep (q1 hb hlh hne), own_same HI.out.row fun g hg => q1 g (HI.out.row.lt g hg).2 (fun q => own_ne HI.out.row HI.out.rw (by decide) (by rw [hg, q])), (HI.out.fr.trans (Fr.of_below (alloc_below wr _)) fun i hi => .inl hi).trans p3 fun i hi => ?_⟩
            rcases hi with rfl | rfl
            · exact .inl (.inl rfl)
            · exact .inr HI.out.fr.size⟩
          have hxl : x.length = 8 := fits_len HFX.out
          have HX1 : Aside0 (∀ v ∈ x, v.oneCell' = true) := ⟨fits_one HFX.out⟩
          clear p1 p2 p3 HZ
          have c0 : wE.cell? ⟨hb, j, none⟩ = some (.slice A i c) := by rw [HE.out.2.2.1.cell, List.getElem?_set_self hjl]
          have f0 : wE.frozen? ⟨hb, j, none⟩ = false := HE.out.2.2.1.frozen j
          have hXB : Aside0 (∀ g, (Value.slice A i c).ownBlock = some g → g < wr.heap.size) := ⟨fun g hg => (HI.out.row.lt g hg).2⟩
          have hnh : (Value.slice A i c).ownBlock ≠ some hb := own_ne HE.out.2.2.2.1 HE.out.2.2.1 (Ne.symm HNE.out.2)
          obtain ⟨XB, hxb⟩ : ∃ XB, XB = wr.heap.size := ⟨_, rfl⟩
          rw [← hxb]
          rw [← hxb] at HE hXB
          have hnx : (Value.slice A i c).ownBlock ≠ some XB := fun e => by have := hXB.out XB e; omega
          have r0 : wE.rangeAt XB 0 x := fun q v hv => by rw [Nat.zero_add, HE.out.2.1.cell]; exact hv
          have hxlt := HE.out.2.1.lt
          have hhlt := HE.out.2.2.1.lt
          have hwlt := Cs.lt HE.out.1
          have hu := Tryz.underlying88
          have hi' : (Tryz.prog.info? 88).map (·.size) = some x.length := by rw [size_claim, hxl]
          have HXL := Aside0.mk hxl
          have HBS : Aside0 (w.heap.size ≤ wE.heap.size) := ⟨HE.out.2.2.2.2.size⟩
          have HXH : Aside0 (hb < XB) := ⟨by rw [hxb]; exact hlh⟩
          clear hxb hxl HI
          go_upto_region 15 with (fail)
          obtain ⟨WA, hWA⟩ : ∃ WA, WA = wE.drew.alloc (.cells x.toArray 88) := ⟨_, rfl⟩
          have HWB : Aside0 (Below wE.heap.size wE WA) := ⟨by rw [hWA]; have b := alloc_below wE (.cells x.toArray 88); exact ⟨b.os, b.tape, b.output, b.size, b.block⟩⟩
          have HRO : Aside0 (WA.ownsRow w.heap.size 88 8 (.slice A i c) i rows.flatten) := ⟨by have := HE.out.2.2.2.1.drew.alloc (.cells x.toArray 88); rw [HRL.out] at this; rw [hWA]; exact this⟩
          have HSZ : Aside0 (WA.heap.size = wE.heap.size + 1) := ⟨by rw [hWA]; simp⟩
          have HBA : Aside0 (w.heap.size ≤ WA.heap.size) := ⟨by have := HSZ.out; have := HBS.out; omega⟩
          have HRA : Aside0 (WA.rangeAt XB 0 x) := ⟨fun q v hv => by rw [World.cell?_of_block (HWB.out.block XB hxlt)]; exact r0 q v hv⟩
          have HFA : Aside0 (WA.frozen? ⟨hb, j, none⟩ = false) := ⟨by rw [World.frozen?_of_block (HWB.out.block hb hhlt)]; exact f0⟩
          have HCA : Aside0 (WA.cell? ⟨hb, j, none⟩ = some (.slice A i c)) := ⟨by rw [World.cell?_of_block (HWB.out.block hb hhlt)]; exact c0⟩
          have hxh : XB ≠ hb := fun e => by have := HXH.out; omega
          subst hWA
          refine wp_region_held_drew (S := (fun w' => w'.rangeAt XB 0 x)) (by kernel_rfl) ?_ (fun hHeld => ?_)
          · exact r0
          refine' wpAnyH_take (i := 0) (v := _) rfl (by kernel_rfl) (by kernel_rfl) (by kernel_rfl) (fun _ _ _ h => h) ?hy1 (by assumption) ?rs1
          case hy1 => exact .inl ⟨by rfl, by intro w' hSw; go_simp; (try with_reducible rfl)⟩
          (try simp only [Act.put, List.setIfInBounds_toArray, List.set_cons_zero, List.set_cons_succ, List.getElem_toArray, List.getElem_cons_zero, List.getElem_cons_succ])
          refine' wpAnyH_take (i := 1) (v := _) rfl (by kernel_rfl) (by kernel_rfl) (by kernel_rfl) (fun _ _ _ h => h) ?hy2 (by assumption) ?rs2
          case hy2 => exact .inl ⟨by rfl, by intro w' hSw; go_simp; (try with_reducible rfl)⟩
          (try simp only [Act.put, List.setIfInBounds_toArray, List.set_cons_zero, List.set_cons_succ, List.getElem_toArray, List.getElem_cons_zero, List.getElem_cons_succ])
          refine' wpAnyH_take (i := 2) (v := _) rfl (by kernel_rfl) (by kernel_rfl) (by kernel_rfl) (fun _ _ _ h => h) ?hy3 (by assumption) ?rs3
          case hy3 => exact .inl ⟨by rfl, by intro w' hSw; go_simp; (try with_reducible rfl)⟩
          (try simp only [Act.put, List.setIfInBounds_toArray, List.set_cons_zero, List.set_cons_succ, List.getElem_toArray, List.getElem_cons_zero, List.getElem_cons_succ])
          refine' wpAnyH_take (i := 4) (v := _) rfl (by kernel_rfl) (by kernel_rfl) (by kernel_rfl) (fun _ _ _ h => h) ?hy4 (by assumption) ?rs4
          case hy4 =>
            refine yieldsIf_load_mid ?ya 88 (.tmp 10) ?yb XB 0 ?yc x _ ?yd hu rfl hi'
            case ya => rfl
            case yb => rfl
            case yc => rfl
            case yd => exact fun w' hS => hS
          (try simp only [Act.put, List.setIfInBounds_toArray, List.set_cons_zero, List.set_cons_succ, List.getElem_toArray, List.getElem_cons_zero, List.getElem_cons_succ])
          refine wpAnyH_ready (rs := [3, 5]) (by kernel_rfl) (by simp) ?_
          refine AllReadyH.cons rfl (fun K hK => ?_) (AllReadyH.cons rfl (fun K hK => ?_) AllReadyH.nil)
          · go_simp
            refine hK.out _ _ ?_ (fun hHeld => ?_)
            · exact r0
            clear hK K
            (try simp only [Act.put, List.setIfInBounds_toArray, List.set_cons_zero, List.set_cons_succ, List.getElem_toArray, List.getElem_cons_zero, List.getElem_cons_succ])
            refine wpAnyH_ready (rs := [5]) (by kernel_rfl) (by simp) ?_
            refine AllReadyH.cons rfl (fun K hK => ?_) AllReadyH.nil
            refine step_build_one rfl 30 88 (.tmp 70) rfl x rfl i0 _ 8 Tryz.underlying30 hI0 hz0 hz1 HXL.out (by decide) (by decide) ?_
            refine hK.out _ _ ?_ (fun hHeld => ?_)
            · exact HRA.out
            clear hK K
            (try simp only [Act.put, List.setIfInBounds_toArray, List.set_cons_zero, List.set_cons_succ, List.getElem_toArray, List.getElem_cons_zero, List.getElem_cons_succ])
            refine wpAnyH_ready (rs := [6]) (by kernel_rfl) (by simp) ?_
            refine AllReadyH.cons rfl (fun K hK => ?_) AllReadyH.nil
            refine step_append_lies _ rfl (.tmp 69) (.tmp 71) 30 rfl w.heap.size 88 i0 _ 8 96 Tryz.underlying30 hI0 hz0 hz1 hz2 rfl (by decide) (.slice A i c) i rows.flatten rfl HRO.out ⟨wE.heap.size, 0, none⟩ 1 1 x rfl (by rw [HXL.out]) (World.news_of_block (cs := x.toArray) (t := 88) (fr := (0, 0)) (heap_alloc_new wE _)) HX1.out (by decide) (by unfold maxLen; omega) (by omega) HBA.out (wE.heap.size + 1) HSZ.out ?_
            intro gg cap w1 hown1 hgrow hat hlt1
            have HOW := Aside0.mk (And.intro hown1 (And.intro hgrow (And.intro hat hlt1)))
            have g1 : w1.rangeAt XB 0 x := fun q v hv => by
              rw [HOW.out.2.1.cell_far _ (Nat.lt_of_lt_of_le hxlt HWB.out.size) (Ne.symm hnx)]
              exact HRA.out q v hv
            have g2 : w1.frozen? ⟨hb, j, none⟩ = false := by
              rw [HOW.out.2.1.frozen_far _ (Nat.lt_of_lt_of_le hhlt HWB.out.size) (Ne.symm hnh)]
              exact HFA.out
            have g3 : w1.cell? ⟨hb, j, none⟩ = some (.slice A i c) := by
              rw [HOW.out.2.1.cell_far _ (Nat.lt_of_lt_of_le hhlt HWB.out.size) (Ne.symm hnh)]
              exact HCA.out
            clear hown1 hgrow hat
            refine hK.out _ _ ?_ (fun hHeld => ?_)
            · exact g1
            clear hK K
            (try simp only [Act.put, List.setIfInBounds_toArray, List.set_cons_zero, List.set_cons_succ, List.getElem_toArray, List.getElem_cons_zero, List.getElem_cons_succ])
            refine' wpAnyH_take (i := 7) (v := _) rfl (by kernel_rfl) (by kernel_rfl) (by kernel_rfl) (fun _ _ _ h => h) ?hy5 (by assumption) ?rs5
            case hy5 => exact .inl ⟨by rfl, by intro w' hSw; go_simp; (try with_reducible rfl)⟩
            (try simp only [Act.put, List.setIfInBounds_toArray, List.set_cons_zero, List.set_cons_succ, List.getElem_toArray, List.getElem_cons_zero, List.getElem_cons_succ])
            refine wpAnyH_ready (rs := [8]) (by kernel_rfl) (by simp) ?_
            refine AllReadyH.cons rfl (fun K hK => ?_) AllReadyH.nil
            go_simp
            refine hK.out _ _ ?_ (fun hHeld => ?_)
            · exact fun q v hv => by rw [World.cell?_of_block (Below.heap_setCell w1 ⟨hb, j, none⟩ _ XB hxh)]; exact g1 q v hv
            clear hK K
            (try simp only [Act.put, List.setIfInBounds_toArray, List.set_cons_zero, List.set_cons_succ, List.getElem_toArray, List.getElem_cons_zero, List.getElem_cons_succ])
            refine wpAnyH_done (by kernel_rfl) ?_ _
            go_wp2
            go_roundw
            case rel =>
              have hgg : (Value.slice (some ⟨gg, 0, none⟩) (i + 1) cap).ownBlock ≠ some hb := by
                intro e
                have e' : gg = hb := by simpa [Value.ownBlock] using e
                rcases HOW.out.2.2.1 with q | q
                · exact hnh (by rw [q, e'])
                · omega
              refine ⟨i + 1, st', rows ++ [x], .slice (some ⟨gg, 0, none⟩) (i + 1) cap, by omega, by simp [HRL.out], by go_num, HDL, ⟨.inr htb⟩, HNX, ⟨?_⟩⟩
              have hr' := HRL.out
              subst hr'
              exact (LRd.push (st' := st') rfl HNE.out.2 (by decide) (Rw.below HE.out.1 HWB.out) (HE.out.2.2.1.keep (HWB.out.block hb hhlt)) HRO.out (HE.out.2.2.2.2.trans (Fr.of_below HWB.out) fun i hi => .inl hi) HOW.out.1 HOW.out.2.1 HNE.out.1 hgg)
            case measure => simp [intOf]; omega
          · refine step_build_one rfl 30 88 (.tmp 70) rfl x rfl i0 _ 8 Tryz.underlying30 hI0 hz0 hz1 HXL.out (by decide) (by decide) ?_
            refine hK.out _ _ ?_ (fun hHeld => ?_)
            · exact HRA.out
            clear hK K
            (try simp only [Act.put, List.setIfInBounds_toArray, List.set_cons_zero, List.set_cons_succ, List.getElem_toArray, List.getElem_cons_zero, List.getElem_cons_succ])
            have k0 := HCA.out
            refine wpAnyH_ready (rs := [3]) (by kernel_rfl) (by simp) ?_
            refine AllReadyH.cons rfl (fun K hK => ?_) AllReadyH.nil
            go_simp
            refine hK.out _ _ ?_ (fun hHeld => ?_)
            · exact HRA.out
            clear hK K
            (try simp only [Act.put, List.setIfInBounds_toArray, List.set_cons_zero, List.set_cons_succ, List.getElem_toArray, List.getElem_cons_zero, List.getElem_cons_succ])
            refine wpAnyH_ready (rs := [6]) (by kernel_rfl) (by simp) ?_
            refine AllReadyH.cons rfl (fun K hK => ?_) AllReadyH.nil
            refine step_append_lies _ rfl (.tmp 69) (.tmp 71) 30 rfl w.heap.size 88 i0 _ 8 96 Tryz.underlying30 hI0 hz0 hz1 hz2 rfl (by decide) (.slice A i c) i rows.flatten rfl HRO.out ⟨wE.heap.size, 0, none⟩ 1 1 x rfl (by rw [HXL.out]) (World.news_of_block (cs := x.toArray) (t := 88) (fr := (0, 0)) (heap_alloc_new wE _)) HX1.out (by decide) (by unfold maxLen; omega) (by omega) HBA.out (wE.heap.size + 1) HSZ.out ?_
            intro gg cap w1 hown1 hgrow hat hlt1
            have HOW := Aside0.mk (And.intro hown1 (And.intro hgrow (And.intro hat hlt1)))
            have g1 : w1.rangeAt XB 0 x := fun q v hv => by
              rw [HOW.out.2.1.cell_far _ (Nat.lt_of_lt_of_le hxlt HWB.out.size) (Ne.symm hnx)]
              exact HRA.out q v hv
            have g2 : w1.frozen? ⟨hb, j, none⟩ = false := by
              rw [HOW.out.2.1.frozen_far _ (Nat.lt_of_lt_of_le hhlt HWB.out.size) (Ne.symm hnh)]
              exact HFA.out
            have g3 : w1.cell? ⟨hb, j, none⟩ = some (.slice A i c) := by
              rw [HOW.out.2.1.cell_far _ (Nat.lt_of_lt_of_le hhlt HWB.out.size) (Ne.symm hnh)]
              exact HCA.out
            clear hown1 hgrow hat
            refine hK.out _ _ ?_ (fun hHeld => ?_)
            · exact g1
            clear hK K
            (try simp only [Act.put, List.setIfInBounds_toArray, List.set_cons_zero, List.set_cons_succ, List.getElem_toArray, List.getElem_cons_zero, List.getElem_cons_succ])
            refine' wpAnyH_take (i := 7) (v := _) rfl (by kernel_rfl) (by kernel_rfl) (by kernel_rfl) (fun _ _ _ h => h) ?hy6 (by assumption) ?rs6
            case hy6 => exact .inl ⟨by rfl, by intro w' hSw; go_simp; (try with_reducible rfl)⟩
            (try simp only [Act.put, List.setIfInBounds_toArray, List.set_cons_zero, List.set_cons_succ, List.getElem_toArray, List.getElem_cons_zero, List.getElem_cons_succ])
            refine wpAnyH_ready (rs := [8]) (by kernel_rfl) (by simp) ?_
            refine AllReadyH.cons rfl (fun K hK => ?_) AllReadyH.nil
            go_simp
            refine hK.out _ _ ?_ (fun hHeld => ?_)
            · exact fun q v hv => by rw [World.cell?_of_block (Below.heap_setCell w1 ⟨hb, j, none⟩ _ XB hxh)]; exact g1 q v hv
            clear hK K
            (try simp only [Act.put, List.setIfInBounds_toArray, List.set_cons_zero, List.set_cons_succ, List.getElem_toArray, List.getElem_cons_zero, List.getElem_cons_succ])
            refine wpAnyH_done (by kernel_rfl) ?_ _
            go_wp2
            go_roundw
            case rel =>
              have hgg : (Value.slice (some ⟨gg, 0, none⟩) (i + 1) cap).ownBlock ≠ some hb := by
                intro e
                have e' : gg = hb := by simpa [Value.ownBlock] using e
                rcases HOW.out.2.2.1 with q | q
                · exact hnh (by rw [q, e'])
                · omega
              refine ⟨i + 1, st', rows ++ [x], .slice (some ⟨gg, 0, none⟩) (i + 1) cap, by omega, by simp [HRL.out], by go_num, HDL, ⟨.inr htb⟩, HNX, ⟨?_⟩⟩
              have hr' := HRL.out
              subst hr'
              exact (LRd.push (st' := st') rfl HNE.out.2 (by decide) (Rw.below HE.out.1 HWB.out) (HE.out.2.2.1.keep (HWB.out.block hb hhlt)) HRO.out (HE.out.2.2.2.2.trans (Fr.of_below HWB.out) fun i hi => .inl hi) HOW.out.1 HOW.out.2.1 HNE.out.1 hgg)
            case measure => simp [intOf]; omega
        · obtain rfl : i = tn := by omega
          have HFN : Aside0 (rdList ks_claim s = (st, rows)) := ⟨by
            rw [HG.out, HRE.out, Nat.sub_self]
            simp [rdRows]⟩
          go_wp2
          go_end0
          refine ⟨rfl, .slice A i c, ?_⟩
          rw [HFN.out]
          exact HI.out
/-! ### list: task -/
def ks_task : List K := [.n, .n, .t, .n, .t, .t, .t, .n, .t, .n, .t]
theorem sc_task_all : sc_task = scOf 0 ks_task := by rfl
theorem size_task : (Tryz.prog.info? 91).map (·.size) = some 11 := by kernel_rfl
theorem info_task : (Tryz.prog.info? 91).map (fun i => (i.zero, i.size, i.bytes)) = some (some (.agg #[.int .i64 0, .int .i64 0, .string ⟨#[]⟩, .int .i64 0, .string ⟨#[]⟩, .string ⟨#[]⟩, .string ⟨#[]⟩, .int .i64 0, .string ⟨#[]⟩, .int .i64 0, .string ⟨#[]⟩]), 11, 136) := by kernel_rfl
set_option maxHeartbeats 8000000 in
set_option maxRecDepth 100000 in
theorem list_task_w {B wb bb hb j c : Nat} {A : Option Addr} {bs : List UInt8} {rows : List (List Value)} {w : World} (h : Wr B wb bb bs w) (hc : w.cell? ⟨hb, j, none⟩ = some (.slice A rows.length c)) (hst : Stay B bb w hb) (hr : RowsAt B bb w A 11 rows)
    (hf : ∀ x ∈ rows, Fits ks_task x) (hn : rows.length ≤ c) (hn2 : rows.length ≤ 100000000) (hl : bs.length + (encRows rows).length ≤ 140737488355328) :
    Calls Tryz.prog 77 #[.pointer (some ⟨wb, 0, none⟩), .pointer (some ⟨hb, j, none⟩), .func (.func 78) #[] #[]] w (Writ B wb bb (bs ++ encRows rows) w) := by
  obtain ⟨n, hnn⟩ : ∃ n, n = rows.length := ⟨_, rfl⟩
  rw [← hnn] at hc hn hn2
  have HN := Aside0.mk hnn
  have H := Aside0.mk h
  have HST := Aside0.mk hst
  have HR := Aside0.mk hr
  have HF := Aside0.mk hf
  have HL : Aside0 (bs.length + (digits n).length + (rows.flatMap encs).length ≤ 140737488355328) := ⟨by unfold encRows at hl; rw [List.length_append, ← hnn] at hl; omega⟩
  have hwc := h.out
  have HC := Aside0.mk hc
  clear h hst hr hf hl hnn
  go_enter Tryz.func77, Tryz.ntmps77
  go_upto_region 1 with (fail)
  go_region_held3 (fun w' => w'.cell? ⟨wb, 0, none⟩ = some (.pointer (some ⟨bb, 0, none⟩)) ∧ w'.cell? ⟨hb, j, none⟩ = some (.slice A n c)) (first | (go_split_ands; assumption) | (refine ⟨?_, ?_⟩ <;> assumption) | go_keep) (first
    | (go_at_call 94; refine (put_any n (by omega) _ _ (by simp)).mono ?_; rintro e wB ⟨rfl, hk⟩; have hk' : Below w.heap.size w wB := ((alloc_below w _).trans (⟨hk.os, hk.tape, hk.output, hk.size, fun i hi => hk.block i (by simp; omega)⟩ : Below w.heap.size (w.alloc _) wB)); have HB : Aside0 (Wr B wb bb bs wB ∧ Wk B bb w wB) := ⟨H.out.below hk', Wk.of_below H.out.le hk'⟩; clear hk hk'; have g0 := HB.out.1.out; have g1 : wB.cell? ⟨hb, j, none⟩ = some (.slice A n c) := by rw [Stay.cell HST.out HB.out.2]; exact HC.out)
    | (go_at_call 93; refine (HB.out.1.write (digits n) (by have := HL.out; omega)).mono ?_; rintro e wC ⟨⟨z', rfl⟩, hk1, hk2⟩; have HCC : Aside0 (Wr B wb bb (bs ++ digits n) wC ∧ Wk B bb w wC) := ⟨hk1, HB.out.2.trans hk2⟩; clear hk1 hk2; have k0 := HCC.out.1.out; have k1 : wC.cell? ⟨hb, j, none⟩ = some (.slice A n c) := by rw [Stay.cell HST.out HCC.out.2]; exact HC.out)
    | fail)
  go_wp2_with (fail)
  go_loopw [31] (fun v31 wr => ∃ i : Nat, i ≤ n ∧ v31 = .int .i64 i ∧ Aside0 (Wr B wb bb (bs ++ digits n ++ (rows.take i).flatMap encs) wr ∧ Wk B bb w wr)) (fun v31 _ => n - (intOf v31).toNat)
  case atStart => exact ⟨0, by omega, rfl, ⟨by simpa using HCC.out.1, HCC.out.2⟩⟩
  case round =>
    obtain ⟨i, hi, rfl, HI⟩ := hrel
    clear g0 g1 k0 k1 HB HCC
    by_cases hlt : i < n
    · have hil : i < rows.length := by have := HN.out; omega
      obtain ⟨x, hx⟩ : ∃ x, rows[i]? = some x := ⟨_, List.getElem?_eq_getElem hil⟩
      have hxf := HF.out x (List.mem_of_getElem? hx)
      obtain ⟨ad, rfl, hsa, hca⟩ := (HR.out.next HI.out.2).at_ (by omega)
      have hcx := hca i x hx
      have hxl : x.length = 11 := fits_len hxf
      have HE : Aside0 ((rows.take (i + 1)).flatMap encs = (rows.take i).flatMap encs ++ encs x) := ⟨rows_take rows i x hx⟩
      have HLX : Aside0 ((bs ++ digits n ++ (rows.take i).flatMap encs).length + (encs x).length ≤ 140737488355328) := ⟨by
        have h1 := HL.out
        have h2 := rows_le rows (i + 1)
        rw [HE.out, List.length_append] at h2
        simp only [List.length_append]; omega⟩
      have HXF := Aside0.mk hxf
      have HXL := Aside0.mk hxl
      have HCX : Aside0 (∀ m v, x[m]? = some v → wr.cell? ((ad.add (i * 11)).add m) = some v) := ⟨fun m v hv => by rw [add_of_add]; exact hcx m v hv⟩
      have HX1 : Aside0 (x.toArray.all (·.oneCell') = true) := ⟨all_oneCell_toArray (fits_one hxf)⟩
      clear hx hxf hsa hca hcx hxl
      go_wp2_with (first
        | ((with_reducible refine wpList_load_at (op := ⟨some 34, _, _, _, _, _⟩) ?a1 91 (.tmp 33) ?a2 (ad.add (i * 11)) ?a3 x _ HCX.out Tryz.underlying91 ?a4 ?a5 ?a6); (case a1 => rfl); (case a2 => rfl); (case a3 => rfl); (case a4 => rfl); (case a5 => (rw [size_task, HXL.out])))
        | ((with_reducible refine wpList_store_new (op := ⟨none, Op.store _ (.tmp 7) (.tmp 34), _, _, _, _⟩) ?b1 91 (.tmp 7) (.tmp 34) ?b2 #[.int .i64 0, .int .i64 0, .string ⟨#[]⟩, .int .i64 0, .string ⟨#[]⟩, .string ⟨#[]⟩, .string ⟨#[]⟩, .int .i64 0, .string ⟨#[]⟩, .int .i64 0, .string ⟨#[]⟩] x.toArray ?b3 ?b4 ?b5 ?b6 HX1.out ?b7); (case b1 => rfl); (case b2 => rfl); (case b3 => rfl); (case b4 => rfl); (case b5 => (rw [size_task]; simp [HXL.out])); (case b6 => simp [HXL.out])))
      have HWX : Aside0 (Wr B wb bb (bs ++ digits n ++ (rows.take i).flatMap encs) (wr.alloc (.cells x.toArray 91)) ∧ Cs wr.heap.size 91 x (wr.alloc (.cells x.toArray 91))) := ⟨HI.out.1.below (alloc_below _ _), cs_alloc _ _ _ _ rfl⟩
      have HEX : Aside0 (encAt sc_task x = encs x ∧ OkAt sc_task x) := ⟨by rw [sc_task_all]; exact ⟨enc_all _ _ (by rw [HXL.out]; rfl), ok_all _ _ HXF.out⟩⟩
      refine (task_w HWX.out.1 HWX.out.2 (by decide) (by decide) HEX.out.2 (by rw [HEX.out.1]; exact HLX.out)).mono ?_
      rintro e wE ⟨rfl, p1, p2⟩
      have HEE : Aside0 (Wr B wb bb (bs ++ digits n ++ (rows.take (i + 1)).flatMap encs) wE ∧ Wk B bb w wE) := ⟨by rw [HE.out, ← List.append_assoc, ← HEX.out.1]; exact p1, HI.out.2.trans ((Wk.of_below HI.out.1.le (alloc_below _ _)).trans p2)⟩
      clear p1 p2
      go_wp2
      go_roundw
      case rel => exact ⟨i + 1, by omega, by go_num, HEE⟩
      case measure => simp [intOf]; omega
    · obtain rfl : i = n := by omega
      have HFL : Aside0 (rows.take i = rows) := ⟨List.take_of_length_le (by have := HN.out; omega)⟩
      go_wp2
      go_end0
      have := HI.out
      rw [HFL.out] at this
      refine ⟨rfl, ?_, this.2⟩
      unfold encRows
      rw [← HN.out, ← List.append_assoc]
      exact this.1
theorem zeros_task : (#[.int .i64 0, .int .i64 0, .string ⟨#[]⟩, .int .i64 0, .string ⟨#[]⟩, .string ⟨#[]⟩, .string ⟨#[]⟩, .int .i64 0, .string ⟨#[]⟩, .int .i64 0, .string ⟨#[]⟩] : Array Value) = (ks_task.map zeroV).toArray := rfl
set_option maxHeartbeats 8000000 in
set_option maxRecDepth 100000 in
theorem list_task_r {wb hb j : Nat} {s : Rd} {HT : TypeId} {hcs : List Value} {w : World} (h : Rw wb s w) (hh : Cs hb HT hcs w) (hj : hcs[j]? = some (.slice none 0 0)) (hne : hb ≠ wb) (hHT : HT ≠ 91) (hl : s.D.length ≤ 100000000) :
    Calls Tryz.prog 77 #[.pointer (some ⟨wb, 0, none⟩), .pointer (some ⟨hb, j, none⟩), .func (.func 78) #[] #[]] w (ListRd wb hb j HT 91 11 hcs (rdList ks_task s) w) := by
  obtain ⟨i0, hI0, hz0, hz1, hz2⟩ := infoParts info_task
  obtain ⟨tn, htn⟩ : ∃ tn, tn = (takeN s).1 := ⟨_, rfl⟩
  obtain ⟨s1, hs1⟩ : ∃ s1, s1 = (takeN s).2 := ⟨_, rfl⟩
  obtain ⟨s2, hs2⟩ : ∃ s2, s2 = (counted s).2 := ⟨_, rfl⟩
  have ctk := take_r h (by omega)
  rw [← htn, ← hs1] at ctk
  have htl : tn < 9223372036854775808 := by rw [htn]; exact take_lt s
  have hsl : s1.D.length ≤ 100000000 := by rw [hs1]; exact Nat.le_trans (take_len s) hl
  have hjl : j < hcs.length := (List.getElem?_eq_some_iff.1 hj).1
  have HG : Aside0 (rdList ks_task s = rdRows ks_task tn s2) := ⟨by unfold rdList; rw [hs2, htn]; rfl⟩
  have HE2 : Aside0 (s2 = if s1.D.length < tn then s1.fail else s1) := ⟨by rw [hs2, hs1, htn]; rfl⟩
  have hwc := h.cells.1
  have HH := Aside0.mk (And.intro hh hj)
  have HNE := Aside0.mk (And.intro hne hHT)
  have HHT := Aside0.mk (show hb < w.heap.size ∧ wb < w.heap.size from ⟨hh.lt, Cs.lt h⟩)
  clear h hh hj hHT htn hs1 hs2
  go_enter Tryz.func77, Tryz.ntmps77
  go_wp2_with (fail)
  refine ctk.mono ?_
  rintro e wA ⟨rfl, p1, p2⟩
  have HA : Aside0 (Rw wb s1 wA ∧ Cs hb HT hcs wA ∧ Fr (fun i => i = wb ∨ i = hb) w wA) := ⟨p1, HH.out.1.keep (p2.block hb HH.out.1.lt hne), ⟨p2.os, p2.tape, p2.output, p2.size, fun i hi hn => p2.block i hi fun q => hn (.inl q)⟩⟩
  clear p1 p2 ctk
  obtain ⟨a0, a1, a2, af⟩ := HA.out.1.cells
  obtain ⟨D1, hD1⟩ : ∃ D1 : ByteArray, D1 = ⟨s1.D.toArray⟩ := ⟨_, rfl⟩
  have hD1s : D1.size = s1.D.length := by rw [hD1, size_mk]
  rw [← hD1] at a1
  have HDS := Aside0.mk hD1s
  clear hD1 hD1s
  have hbd : s2.bad = true ∨ tn ≤ 100000000 := by
    rw [HE2.out]
    by_cases hgt : s1.D.length < tn
    · rw [if_pos hgt]; exact .inl rfl
    · right; omega
  have HBD := Aside0.mk hbd
  clear hbd
  go_upto_if 47 with (fail)
  go_cut [] (fun wx => LRd wb hb j HT 91 11 hcs w.heap.size (s2, []) (.slice none 0 0) w wx)
  case first =>
    have hset : hcs.set j (.slice none 0 0) = hcs := by
      apply List.ext_getElem?
      intro q
      rw [List.getElem?_set]
      split
      · rename_i hq
        subst hq
        exact HH.out.2.symm
      · rfl
    have HSET := Aside0.mk hset
    clear hset
    by_cases hgt : s1.D.length < tn
    · have hgt' : (D1.size : Int) < (tn : Int) := by have := HDS.out; omega
      have HGT := Aside0.mk hgt
      clear hgt
      go_wp2
      go_meet
      refine ⟨?_, ?_, World.ownsRow_nil _ _ _ _, HA.out.2.2.set _ _ (.inl (.inl rfl))⟩
      · show Rw wb s2 _
        rw [HE2.out, if_pos HGT.out]
        exact HA.out.1.isBad
      · rw [HSET.out]
        exact Cs.other HA.out.2.1 _ _ (Ne.symm hne)
    · have hgt' : ¬(D1.size : Int) < (tn : Int) := by have := HDS.out; omega
      have HGT := Aside0.mk hgt
      clear hgt
      go_wp2
      go_meet
      refine ⟨?_, ?_, World.ownsRow_nil _ _ _ _, HA.out.2.2⟩
      · show Rw wb s2 _
        rw [HE2.out, if_neg HGT.out]
        exact HA.out.1
      · rw [HSET.out]
        exact HA.out.2.1
  case rest =>
    have HX := Aside0.mk hcut
    clear hcut a0 a1 a2 af HA hwc
    go_wp2_with (fail)
    go_loopw [9] (fun v9 wr => ∃ (i : Nat) (st : Rd) (rows : List (List Value)) (v : Value), i ≤ tn ∧ rows.length = i ∧ v9 = .int .i64 i ∧ Aside0 (st.D.length ≤ 100000000) ∧ Aside0 (st.bad = true ∨ tn ≤ 100000000) ∧ Aside0 (rdRows ks_task tn s2 = ((rdRows ks_task (tn - i) st).1, rows ++ (rdRows ks_task (tn - i) st).2)) ∧ Aside0 (LRd wb hb j HT 91 11 hcs w.heap.size (st, rows) v w wr)) (fun v9 _ => tn - (intOf v9).toNat)
    case atStart => exact ⟨0, s2, [], _, by omega, rfl, rfl, ⟨by rw [HE2.out]; split <;> exact hsl⟩, HBD, ⟨by simp⟩, HX⟩
    case round =>
      obtain ⟨i, st, rows, v, hi, hrl, rfl, HSL, HBT, HRE, HI⟩ := hrel
      clear HX HBD
      obtain ⟨A, c, rfl⟩ : ∃ A c, v = .slice A i c := by rw [← hrl]; exact own_shape HI.out.row
      have HRL := Aside0.mk hrl
      clear hrl
      obtain ⟨b0, b1, b2, bf⟩ := HI.out.rw.cells
      obtain ⟨qb, hbad⟩ : ∃ q, q = st.bad := ⟨_, rfl⟩
      rw [show (st, rows).1.bad = qb from hbad.symm] at b2
      have HBB := Aside0.mk hbad
      clear hbad
      cases qb with
      | true =>
        have HFN : Aside0 (rdList ks_task s = (st, rows)) := ⟨by
          rw [HG.out, HRE.out]
          rw [rows_done _ _ st HBB.out.symm]
          simp⟩
        by_cases hlt : i < tn
        all_goals
          go_wp2
          go_end0
          refine ⟨rfl, .slice A i c, ?_⟩
          rw [HFN.out]
          exact HI.out
      | false =>
        by_cases hlt : i < tn
        · have htb : tn ≤ 100000000 := HBT.out.resolve_left (by rw [← HBB.out]; simp)
          have HNX : Aside0 (rdRows ks_task tn s2 = ((rdRows ks_task (tn - (i + 1)) (rds ks_task st (ks_task.map zeroV)).1).1, (rows ++ [(rds ks_task st (ks_task.map zeroV)).2]) ++ (rdRows ks_task (tn - (i + 1)) (rds ks_task st (ks_task.map zeroV)).1).2)) := ⟨by
            rw [HRE.out, show tn - i = (tn - (i + 1)) + 1 from by omega]
            rw [rows_more _ _ st HBB.out.symm]
            simp⟩
          have HFX : Aside0 (Fits ks_task (rds ks_task st (ks_task.map zeroV)).2) := ⟨fits_rds _ _ _ (fits_zero _)⟩
          have HDL : Aside0 ((rds ks_task st (ks_task.map zeroV)).1.D.length ≤ 100000000) := ⟨by
            rw [← rd_all _ _ _ (by simp)]
            exact Nat.le_trans (rdAt_len _ _).1 HSL.out⟩
          have HRD : Aside0 (rdAt sc_task (st, ks_task.map zeroV) = rds ks_task st (ks_task.map zeroV)) := ⟨by rw [sc_task_all]; exact rd_all _ _ _ (by simp)⟩
          obtain ⟨p, hp⟩ : ∃ p, p = rds ks_task st (ks_task.map zeroV) := ⟨_, rfl⟩
          rw [← hp] at HNX HFX HRD HDL
          clear hp HRE
          obtain ⟨st', x⟩ := p
          simp only at HNX HFX HDL
          have hlw := Cs.lt HI.out.rw
          have hlh := HI.out.cs.lt
          go_wp2_with (fail)
          have HZ : Aside0 (Rw wb st (wr.alloc (.cells #[.int .i64 0, .int .i64 0, .string ⟨#[]⟩, .int .i64 0, .string ⟨#[]⟩, .string ⟨#[]⟩, .string ⟨#[]⟩, .int .i64 0, .string ⟨#[]⟩, .int .i64 0, .string ⟨#[]⟩] 91)) ∧ Cs wr.heap.size 91 (ks_task.map zeroV) (wr.alloc (.cells #[.int .i64 0, .int .i64 0, .string ⟨#[]⟩, .int .i64 0, .string ⟨#[]⟩, .string ⟨#[]⟩, .string ⟨#[]⟩, .int .i64 0, .string ⟨#[]⟩, .int .i64 0, .string ⟨#[]⟩] 91))) := ⟨Rw.below HI.out.rw (alloc_below _ _), cs_alloc _ _ _ _ zeros_task⟩
          have HSC : Aside0 (∀ y ∈ sc_task, y.2 < (ks_task.map zeroV).length) := ⟨by decide⟩
          refine (task_r HZ.out.1 HZ.out.2 (by omega) HSC.out (Nat.le_trans HSL.out (by decide))).mono ?_
          rintro e wE ⟨rfl, p1, p2, p3⟩
          rw [HRD.out] at p1 p2
          simp only at p1 p2
          have HE : Aside0 (Rw wb st' wE ∧ Cs wr.heap.size 91 x wE ∧ Cs hb HT (hcs.set j (.slice A i c)) wE ∧ wE.ownsRow w.heap.size 91 11 (.slice A i c) rows.length rows.flatten ∧ Fr (fun i => i = wb ∨ i = hb) w wE) := ⟨by
            have q1 : ∀ b, b < wr.heap.size → b ≠ wb → wE.heap[b]? = wr.heap[b]? := fun b hb' hbw => (p3.block b (by simp; omega) (by rintro (q | q) <;> omega)).trans ((alloc_below wr _).block b hb')
            refine ⟨p1, p2, HI.out.cs.keep (q1 hb hlh hne), own_same HI.out.row fun g hg => q1 g (HI.out.row.lt g hg).2 (fun q => own_ne HI.out.row HI.out.rw (by decide) (by rw [hg, q])), (HI.out.fr.trans (Fr.of_below (alloc_below wr _)) fun i hi => .inl hi).trans p3 fun i hi => ?_⟩
            rcases hi with rfl | rfl
            · exact .inl (.inl rfl)
            · exact .inr HI.out.fr.size⟩
          have hxl : x.length = 11 := fits_len HFX.out
          have HX1 : Aside0 (∀ v ∈ x, v.oneCell' = true) := ⟨fits_one HFX.out⟩
          clear p1 p2 p3 HZ
          have c0 : wE.cell? ⟨hb, j, none⟩ = some (.slice A i c) := by rw [HE.out.2.2.1.cell, List.getElem?_set_self hjl]
          have f0 : wE.frozen? ⟨hb, j, none⟩ = false := HE.out.2.2.1.frozen j
          have hXB : Aside0 (∀ g, (Value.slice A i c).ownBlock = some g → g < wr.heap.size) := ⟨fun g hg => (HI.out.row.lt g hg).2⟩
          have hnh : (Value.slice A i c).ownBlock ≠ some hb := own_ne HE.out.2.2.2.1 HE.out.2.2.1 (Ne.symm HNE.out.2)
          obtain ⟨XB, hxb⟩ : ∃ XB, XB = wr.heap.size := ⟨_, rfl⟩
          rw [← hxb]
          rw [← hxb] at HE hXB
          have hnx : (Value.slice A i c).ownBlock ≠ some XB := fun e => by have := hXB.out XB e; omega
          have r0 : wE.rangeAt XB 0 x := fun q v hv => by rw [Nat.zero_add, HE.out.2.1.cell]; exact hv
          have hxlt := HE.out.2.1.lt
          have hhlt := HE.out.2.2.1.lt
          have hwlt := Cs.lt HE.out.1
          have hu := Tryz.underlying91
          have hi' : (Tryz.prog.info? 91).map (·.size) = some x.length := by rw [size_task, hxl]
          have HXL := Aside0.mk hxl
          have HBS : Aside0 (w.heap.size ≤ wE.heap.size) := ⟨HE.out.2.2.2.2.size⟩
          have HXH : Aside0 (hb < XB) := ⟨by rw [hxb]; exact hlh⟩
          clear hxb hxl HI
          go_upto_region 15 with (fail)
          obtain ⟨WA, hWA⟩ : ∃ WA, WA = wE.drew.alloc (.cells x.toArray 91) := ⟨_, rfl⟩
          have HWB : Aside0 (Below wE.heap.size wE WA) := ⟨by rw [hWA]; have b := alloc_below wE (.cells x.toArray 91); exact ⟨b.os, b.tape, b.output, b.size, b.block⟩⟩
          have HRO : Aside0 (WA.ownsRow w.heap.size 91 11 (.slice A i c) i rows.flatten) := ⟨by have := HE.out.2.2.2.1.drew.alloc (.cells x.toArray 91); rw [HRL.out] at this; rw [hWA]; exact this⟩
          have HSZ : Aside0 (WA.heap.size = wE.heap.size + 1) := ⟨by rw [hWA]; simp⟩
          have HBA : Aside0 (w.heap.size ≤ WA.heap.size) := ⟨by have := HSZ.out; have := HBS.out; omega⟩
          have HRA : Aside0 (WA.rangeAt XB 0 x) := ⟨fun q v hv => by rw [World.cell?_of_block (HWB.out.block XB hxlt)]; exact r0 q v hv⟩
          have HFA : Aside0 (WA.frozen? ⟨hb, j, none⟩ = false) := ⟨by rw [World.frozen?_of_block (HWB.out.block hb hhlt)]; exact f0⟩
          have HCA : Aside0 (WA.cell? ⟨hb, j, none⟩ = some (.slice A i c)) := ⟨by rw [World.cell?_of_block (HWB.out.block hb hhlt)]; exact c0⟩
          have hxh : XB ≠ hb := fun e => by have := HXH.out; omega
          subst hWA
          refine wp_region_held_drew (S := (fun w' => w'.rangeAt XB 0 x)) (by kernel_rfl) ?_ (fun hHeld => ?_)
          · exact r0
          refine' wpAnyH_take (i := 0) (v := _) rfl (by kernel_rfl) (by kernel_rfl) (by kernel_rfl) (fun _ _ _ h => h) ?hy1 (by assumption) ?rs1
          case hy1 => exact .inl ⟨by rfl, by intro w' hSw; go_simp; (try with_reducible rfl)⟩
          (try simp only [Act.put, List.setIfInBounds_toArray, List.set_cons_zero, List.set_cons_succ, List.getElem_toArray, List.getElem_cons_zero, List.getElem_cons_succ])
          refine' wpAnyH_take (i := 1) (v := _) rfl (by kernel_rfl) (by kernel_rfl) (by kernel_rfl) (fun _ _ _ h => h) ?hy2 (by assumption) ?rs2
          case hy2 => exact .inl ⟨by rfl, by intro w' hSw; go_simp; (try with_reducible rfl)⟩
          (try simp only [Act.put, List.setIfInBounds_toArray, List.set_cons_zero, List.set_cons_succ, List.getElem_toArray, List.getElem_cons_zero, List.getElem_cons_succ])
          refine' wpAnyH_take (i := 2) (v := _) rfl (by kernel_rfl) (by kernel_rfl) (by kernel_rfl) (fun _ _ _ h => h) ?hy3 (by assumption) ?rs3
          case hy3 => exact .inl ⟨by rfl, by intro w' hSw; go_simp; (try with_reducible rfl)⟩
          (try simp only [Act.put, List.setIfInBounds_toArray, List.set_cons_zero, List.set_cons_succ, List.getElem_toArray, List.getElem_cons_zero, List.getElem_cons_succ])
          refine' wpAnyH_take (i := 4) (v := _) rfl (by kernel_rfl) (by kernel_rfl) (by kernel_rfl) (fun _ _ _ h => h) ?hy4 (by assumption) ?rs4
          case hy4 =>
            refine yieldsIf_load_mid ?ya 91 (.tmp 10) ?yb XB 0 ?yc x _ ?yd hu rfl hi'
            case ya => rfl
            case yb => rfl
            case yc => rfl
            case yd => exact fun w' hS => hS
          (try simp only [Act.put, List.setIfInBounds_toArray, List.set_cons_zero, List.set_cons_succ, List.getElem_toArray, List.getElem_cons_zero, List.getElem_cons_succ])
          refine wpAnyH_ready (rs := [3, 5]) (by kernel_rfl) (by simp) ?_
          refine AllReadyH.cons rfl (fun K hK => ?_) (AllReadyH.cons rfl (fun K hK => ?_) AllReadyH.nil)
          · go_simp
            refine hK.out _ _ ?_ (fun hHeld => ?_)
            · exact r0
            clear hK K
            (try simp only [Act.put, List.setIfInBounds_toArray, List.set_cons_zero, List.set_cons_succ, List.getElem_toArray, List.getElem_cons_zero, List.getElem_cons_succ])
            refine wpAnyH_ready (rs := [5]) (by kernel_rfl) (by simp) ?_
            refine AllReadyH.cons rfl (fun K hK => ?_) AllReadyH.nil
            refine step_build_one rfl 31 91 (.tmp 70) rfl x rfl i0 _ 11 Tryz.underlying31 hI0 hz0 hz1 HXL.out (by decide) (by decide) ?_
            refine hK.out _ _ ?_ (fun hHeld => ?_)
            · exact HRA.out
            clear hK K
            (try simp only [Act.put, List.setIfInBounds_toArray, List.set_cons_zero, List.set_cons_succ, List.getElem_toArray, List.getElem_cons_zero, List.getElem_cons_succ])
            refine wpAnyH_ready (rs := [6]) (by kernel_rfl) (by simp) ?_
            refine AllReadyH.cons rfl (fun K hK => ?_) AllReadyH.nil
            refine step_append_lies _ rfl (.tmp 69) (.tmp 71) 31 rfl w.heap.size 91 i0 _ 11 136 Tryz.underlying31 hI0 hz0 hz1 hz2 rfl (by decide) (.slice A i c) i rows.flatten rfl HRO.out ⟨wE.heap.size, 0, none⟩ 1 1 x rfl (by rw [HXL.out]) (World.news_of_block (cs := x.toArray) (t := 91) (fr := (0, 0)) (heap_alloc_new wE _)) HX1.out (by decide) (by unfold maxLen; omega) (by omega) HBA.out (wE.heap.size + 1) HSZ.out ?_
            intro gg cap w1 hown1 hgrow hat hlt1
            have HOW := Aside0.mk (And.intro hown1 (And.intro hgrow (And.intro hat hlt1)))
            have g1 : w1.rangeAt XB 0 x := fun q v hv => by
              rw [HOW.out.2.1.cell_far _ (Nat.lt_of_lt_of_le hxlt HWB.out.size) (Ne.symm hnx)]
              exact HRA.out q v hv
            have g2 : w1.frozen? ⟨hb, j, none⟩ = false := by
              rw [HOW.out.2.1.frozen_far _ (Nat.lt_of_lt_of_le hhlt HWB.out.size) (Ne.symm hnh)]
              exact HFA.out
            have g3 : w1.cell? ⟨hb, j, none⟩ = some (.slice A i c) := by
              rw [HOW.out.2.1.cell_far _ (Nat.lt_of_lt_of_le hhlt HWB.out.size) (Ne.symm hnh)]
              exact HCA.out
            clear hown1 hgrow hat
            refine hK.out _ _ ?_ (fun hHeld => ?_)
            · exact g1
            clear hK K
            (try simp only [Act.put, List.setIfInBounds_toArray, List.set_cons_zero, List.set_cons_succ, List.getElem_toArray, List.getElem_cons_zero, List.getElem_cons_succ])
            refine' wpAnyH_take (i := 7) (v := _) rfl (by kernel_rfl) (by kernel_rfl) (by kernel_rfl) (fun _ _ _ h => h) ?hy5 (by assumption) ?rs5
            case hy5 => exact .inl ⟨by rfl, by intro w' hSw; go_simp; (try with_reducible rfl)⟩
            (try simp only [Act.put, List.setIfInBounds_toArray, List.set_cons_zero, List.set_cons_succ, List.getElem_toArray, List.getElem_cons_zero, List.getElem_cons_succ])
            refine wpAnyH_ready (rs := [8]) (by kernel_rfl) (by simp) ?_
            refine AllReadyH.cons rfl (fun K hK => ?_) AllReadyH.nil
            go_simp
            refine hK.out _ _ ?_ (fun hHeld => ?_)
            · exact fun q v hv => by rw [World.cell?_of_block (Below.heap_setCell w1 ⟨hb, j, none⟩ _ XB hxh)]; exact g1 q v hv
            clear hK K
            (try simp only [Act.put, List.setIfInBounds_toArray, List.set_cons_zero, List.set_cons_succ, List.getElem_toArray, List.getElem_cons_zero, List.getElem_cons_succ])
            refine wpAnyH_done (by kernel_rfl) ?_ _
            go_wp2
            go_roundw
            case rel =>
              have hgg : (Value.slice (some ⟨gg, 0, none⟩) (i + 1) cap).ownBlock ≠ some hb := by
                intro e
                have e' : gg = hb := by simpa [Value.ownBlock] using e
                rcases HOW.out.2.2.1 with q | q
                · exact hnh (by rw [q, e'])
                · omega
              refine ⟨i + 1, st', rows ++ [x], .slice (some ⟨gg, 0, none⟩) (i + 1) cap, by omega, by simp [HRL.out], by go_num, HDL, ⟨.inr htb⟩, HNX, ⟨?_⟩⟩
              have hr' := HRL.out
              subst hr'
              exact (LRd.push (st' := st') rfl HNE.out.2 (by decide) (Rw.below HE.out.1 HWB.out) (HE.out.2.2.1.keep (HWB.out.block hb hhlt)) HRO.out (HE.out.2.2.2.2.trans (Fr.of_below HWB.out) fun i hi => .inl hi) HOW.out.1 HOW.out.2.1 HNE.out.1 hgg)
            case measure => simp [intOf]; omega
          · refine step_build_one rfl 31 91 (.tmp 70) rfl x rfl i0 _ 11 Tryz.underlying31 hI0 hz0 hz1 HXL.out (by decide) (by decide) ?_
            refine hK.out _ _ ?_ (fun hHeld => ?_)
            · exact HRA.out
            clear hK K
            (try simp only [Act.put, List.setIfInBounds_toArray, List.set_cons_zero, List.set_cons_succ, List.getElem_toArray, List.getElem_cons_zero, List.getElem_cons_succ])
            have k0 := HCA.out
            refine wpAnyH_ready (rs := [3]) (by kernel_rfl) (by simp) ?_
            refine AllReadyH.cons rfl (fun K hK => ?_) AllReadyH.nil
            go_simp
            refine hK.out _ _ ?_ (fun hHeld => ?_)
            · exact HRA.out
            clear hK K
            (try simp only [Act.put, List.setIfInBounds_toArray, List.set_cons_zero, List.set_cons_succ, List.getElem_toArray, List.getElem_cons_zero, List.getElem_cons_succ])
            refine wpAnyH_ready (rs := [6]) (by kernel_rfl) (by simp) ?_
            refine AllReadyH.cons rfl (fun K hK => ?_) AllReadyH.nil
            refine step_append_lies _ rfl (.tmp 69) (.tmp 71) 31 rfl w.heap.size 91 i0 _ 11 136 Tryz.underlying31 hI0 hz0 hz1 hz2 rfl (by decide) (.slice A i c) i rows.flatten rfl HRO.out ⟨wE.heap.size, 0, none⟩ 1 1 x rfl (by rw [HXL.out]) (World.news_of_block (cs := x.toArray) (t := 91) (fr := (0, 0)) (heap_alloc_new wE _)) HX1.out (by decide) (by unfold maxLen; omega) (by omega) HBA.out (wE.heap.size + 1) HSZ.out ?_
            intro gg cap w1 hown1 hgrow hat hlt1
            have HOW := Aside0.mk (And.intro hown1 (And.intro hgrow (And.intro hat hlt1)))
            have g1 : w1.rangeAt XB 0 x := fun q v hv => by
              rw [HOW.out.2.1.cell_far _ (Nat.lt_of_lt_of_le hxlt HWB.out.size) (Ne.symm hnx)]
              exact HRA.out q v hv
            have g2 : w1.frozen? ⟨hb, j, none⟩ = false := by
              rw [HOW.out.2.1.frozen_far _ (Nat.lt_of_lt_of_le hhlt HWB.out.size) (Ne.symm hnh)]
              exact HFA.out
            have g3 : w1.cell? ⟨hb, j, none⟩ = some (.slice A i c) := by
              rw [HOW.out.2.1.cell_far _ (Nat.lt_of_lt_of_le hhlt HWB.out.size) (Ne.symm hnh)]
              exact HCA.out
            clear hown1 hgrow hat
            refine hK.out _ _ ?_ (fun hHeld => ?_)
            · exact g1
            clear hK K
            (try simp only [Act.put, List.setIfInBounds_toArray, List.set_cons_zero, List.set_cons_succ, List.getElem_toArray, List.getElem_cons_zero, List.getElem_cons_succ])
            refine' wpAnyH_take (i := 7) (v := _) rfl (by kernel_rfl) (by kernel_rfl) (by kernel_rfl) (fun _ _ _ h => h) ?hy6 (by assumption) ?rs6
            case hy6 => exact .inl ⟨by rfl, by intro w' hSw; go_simp; (try with_reducible rfl)⟩
            (try simp only [Act.put, List.setIfInBounds_toArray, List.set_cons_zero, List.set_cons_succ, List.getElem_toArray, List.getElem_cons_zero, List.getElem_cons_succ])
            refine wpAnyH_ready (rs := [8]) (by kernel_rfl) (by simp) ?_
            refine AllReadyH.cons rfl (fun K hK => ?_) AllReadyH.nil
            go_simp
            refine hK.out _ _ ?_ (fun hHeld => ?_)
            · exact fun q v hv => by rw [World.cell?_of_block (Below.heap_setCell w1 ⟨hb, j, none⟩ _ XB hxh)]; exact g1 q v hv
            clear hK K
            (try simp only [Act.put, List.setIfInBounds_toArray, List.set_cons_zero, List.set_cons_succ, List.getElem_toArray, List.getElem_cons_zero, List.getElem_cons_succ])
            refine wpAnyH_done (by kernel_rfl) ?_ _
            go_wp2
            go_roundw
            case rel =>
              have hgg : (Value.slice (some ⟨gg, 0, none⟩) (i + 1) cap).ownBlock ≠ some hb := by
                intro e
                have e' : gg = hb := by simpa [Value.ownBlock] using e
                rcases HOW.out.2.2.1 with q | q
                · exact hnh (by rw [q, e'])
                · omega
              refine ⟨i + 1, st', rows ++ [x], .slice (some ⟨gg, 0, none⟩) (i + 1) cap, by omega, by simp [HRL.out], by go_num, HDL, ⟨.inr htb⟩, HNX, ⟨?_⟩⟩
              have hr' := HRL.out
              subst hr'
              exact (LRd.push (st' := st') rfl HNE.out.2 (by decide) (Rw.below HE.out.1 HWB.out) (HE.out.2.2.1.keep (HWB.out.block hb hhlt)) HRO.out (HE.out.2.2.2.2.trans (Fr.of_below HWB.out) fun i hi => .inl hi) HOW.out.1 HOW.out.2.1 HNE.out.1 hgg)
            case measure => simp [intOf]; omega
        · obtain rfl : i = tn := by omega
          have HFN : Aside0 (rdList ks_task s = (st, rows)) := ⟨by
            rw [HG.out, HRE.out, Nat.sub_self]
            simp [rdRows]⟩
          go_wp2
          go_end0
          refine ⟨rfl, .slice A i c, ?_⟩
          rw [HFN.out]
          exact HI.out
end Go.Proofs.YtgdoodeibcfcjaaGreat.Wire
