/- Instances of the codec's generic list, walked in both modes: lot, zone, rule, parcel, sent, counted, total. Printed by clist.py. -/
import Derived.Test.YtgdoodeibcfcjaaGreatCList
set_option linter.unusedVariables false
set_option linter.unusedSimpArgs false
namespace Go.Proofs.YtgdoodeibcfcjaaGreat.Wire
open Go.RowKit Go.Proofs.YtgdoodeibcfcjaaGreat.NumsPure Go.Proofs.YtgdoodeibcfcjaaGreat.CPure Go.Proofs.YtgdoodeibcfcjaaGreat.Own
open Go.Proofs.YtgdoodeibcfcjaaGreat.Put (digits digits_lt digits_ge)
open Go.Proofs.YtgdoodeibcfcjaaGreat.BldS (Keeps)
/-! ### list: lot -/
def ks_lot : List K := [.t, .t, .n]
theorem sc_lot_all : sc_lot = scOf 0 ks_lot := by rfl
theorem size_lot : (Tryz.prog.info? 62).map (·.size) = some 3 := by kernel_rfl
theorem info_lot : (Tryz.prog.info? 62).map (fun i => (i.zero, i.size, i.bytes)) = some (some (.agg #[.string ⟨#[]⟩, .string ⟨#[]⟩, .int .i64 0]), 3, 40) := by kernel_rfl
set_option maxHeartbeats 8000000 in
set_option maxRecDepth 100000 in
theorem list_lot_w {B wb bb hb j c : Nat} {A : Option Addr} {bs : List UInt8} {rows : List (List Value)} {w : World} (h : Wr B wb bb bs w) (hc : w.cell? ⟨hb, j, none⟩ = some (.slice A rows.length c)) (hst : Stay B bb w hb) (hr : RowsAt B bb w A 3 rows)
    (hf : ∀ x ∈ rows, Fits ks_lot x) (hn : rows.length ≤ c) (hn2 : rows.length ≤ 100000000) (hl : bs.length + (encRows rows).length ≤ 140737488355328) :
    Calls Tryz.prog 56 #[.pointer (some ⟨wb, 0, none⟩), .pointer (some ⟨hb, j, none⟩), .func (.func 57) #[] #[]] w (Writ B wb bb (bs ++ encRows rows) w) := by
  obtain ⟨n, hnn⟩ : ∃ n, n = rows.length := ⟨_, rfl⟩
  rw [← hnn] at hc hn hn2
  have HN := Aside0.mk hnn
  have H := Aside0.mk h
  have HST := Aside0.mk hst
  have HR := Aside0.mk hr
  have HF := Aside0.mk hf
  have HL : Aside0 (bs.length + (digits n).length + (rows.flatMap encs).length ≤ 140737488355328) := ⟨by unfold encRows at hl; rw [List.length_append, ← hnn] at hl; omega⟩
  have hwc := h.out
  have HC := Aside0.mk hc
  clear h hst hr hf hl hnn
  go_enter Tryz.func56, Tryz.ntmps56
  go_upto_region 1 with (fail)
  go_region_held3 (fun w' => w'.cell? ⟨wb, 0, none⟩ = some (.pointer (some ⟨bb, 0, none⟩)) ∧ w'.cell? ⟨hb, j, none⟩ = some (.slice A n c)) (first | (go_split_ands; assumption) | (refine ⟨?_, ?_⟩ <;> assumption) | go_keep) (first
    | (go_at_call 94; refine (put_any n (by omega) _ _ (by simp)).mono ?_; rintro e wB ⟨rfl, hk⟩; have hk' : Below w.heap.size w wB := ((alloc_below w _).trans (⟨hk.os, hk.tape, hk.output, hk.size, fun i hi => hk.block i (by simp; omega)⟩ : Below w.heap.size (w.alloc _) wB)); have HB : Aside0 (Wr B wb bb bs wB ∧ Wk B bb w wB) := ⟨H.out.below hk', Wk.of_below H.out.le hk'⟩; clear hk hk'; have g0 := HB.out.1.out; have g1 : wB.cell? ⟨hb, j, none⟩ = some (.slice A n c) := by rw [Stay.cell HST.out HB.out.2]; exact HC.out)
    | (go_at_call 93; refine (HB.out.1.write (digits n) (by have := HL.out; omega)).mono ?_; rintro e wC ⟨⟨z', rfl⟩, hk1, hk2⟩; have HCC : Aside0 (Wr B wb bb (bs ++ digits n) wC ∧ Wk B bb w wC) := ⟨hk1, HB.out.2.trans hk2⟩; clear hk1 hk2; have k0 := HCC.out.1.out; have k1 : wC.cell? ⟨hb, j, none⟩ = some (.slice A n c) := by rw [Stay.cell HST.out HCC.out.2]; exact HC.out)
    | fail)
  go_wp2_with (fail)
  go_loopw [31] (fun v31 wr => ∃ i : Nat, i ≤ n ∧ v31 = .int .i64 i ∧ Aside0 (Wr B wb bb (bs ++ digits n ++ (rows.take i).flatMap encs) wr ∧ Wk B bb w wr)) (fun v31 _ => n - (intOf v31).toNat)
  case atStart => exact ⟨0, by omega, rfl, ⟨by simpa using HCC.out.1, HCC.out.2⟩⟩
  case round =>
    obtain ⟨i, hi, rfl, HI⟩ := hrel
    clear g0 g1 k0 k1 HB HCC
    by_cases hlt : i < n
    · have hil : i < rows.length := by have := HN.out; omega
      obtain ⟨x, hx⟩ : ∃ x, rows[i]? = some x := ⟨_, List.getElem?_eq_getElem hil⟩
      have hxf := HF.out x (List.mem_of_getElem? hx)
      obtain ⟨ad, rfl, hsa, hca⟩ := (HR.out.next HI.out.2).at_ (by omega)
      have hcx := hca i x hx
      have hxl : x.length = 3 := fits_len hxf
      have HE : Aside0 ((rows.take (i + 1)).flatMap encs = (rows.take i).flatMap encs ++ encs x) := ⟨rows_take rows i x hx⟩
      have HLX : Aside0 ((bs ++ digits n ++ (rows.take i).flatMap encs).length + (encs x).length ≤ 140737488355328) := ⟨by
        have h1 := HL.out
        have h2 := rows_le rows (i + 1)
        rw [HE.out, List.length_append] at h2
        simp only [List.length_append]; omega⟩
      have HXF := Aside0.mk hxf
      have HXL := Aside0.mk hxl
      have HCX : Aside0 (∀ m v, x[m]? = some v → wr.cell? ((ad.add (i * 3)).add m) = some v) := ⟨fun m v hv => by rw [add_of_add]; exact hcx m v hv⟩
      have HX1 : Aside0 (x.toArray.all (·.oneCell') = true) := ⟨all_oneCell_toArray (fits_one hxf)⟩
      clear hx hxf hsa hca hcx hxl
      go_wp2_with (first
        | ((with_reducible refine wpList_load_at (op := ⟨some 34, _, _, _, _, _⟩) ?a1 62 (.tmp 33) ?a2 (ad.add (i * 3)) ?a3 x _ HCX.out Tryz.underlying62 ?a4 ?a5 ?a6); (case a1 => rfl); (case a2 => rfl); (case a3 => rfl); (case a4 => rfl); (case a5 => (rw [size_lot, HXL.out])))
        | ((with_reducible refine wpList_store_new (op := ⟨none, Op.store _ (.tmp 7) (.tmp 34), _, _, _, _⟩) ?b1 62 (.tmp 7) (.tmp 34) ?b2 #[.string ⟨#[]⟩, .string ⟨#[]⟩, .int .i64 0] x.toArray ?b3 ?b4 ?b5 ?b6 HX1.out ?b7); (case b1 => rfl); (case b2 => rfl); (case b3 => rfl); (case b4 => rfl); (case b5 => (rw [size_lot]; simp [HXL.out])); (case b6 => simp [HXL.out])))
      have HWX : Aside0 (Wr B wb bb (bs ++ digits n ++ (rows.take i).flatMap encs) (wr.alloc (.cells x.toArray 62)) ∧ Cs wr.heap.size 62 x (wr.alloc (.cells x.toArray 62))) := ⟨HI.out.1.below (alloc_below _ _), cs_alloc _ _ _ _ rfl⟩
      have HEX : Aside0 (encAt sc_lot x = encs x ∧ OkAt sc_lot x) := ⟨by rw [sc_lot_all]; exact ⟨enc_all _ _ (by rw [HXL.out]; rfl), ok_all _ _ HXF.out⟩⟩
      refine (lot_w HWX.out.1 HWX.out.2 (by decide) (by decide) HEX.out.2 (by rw [HEX.out.1]; exact HLX.out)).mono ?_
      rintro e wE ⟨rfl, p1, p2⟩
      have HEE : Aside0 (Wr B wb bb (bs ++ digits n ++ (rows.take (i + 1)).flatMap encs) wE ∧ Wk B bb w wE) := ⟨by rw [HE.out, ← List.append_assoc, ← HEX.out.1]; exact p1, HI.out.2.trans ((Wk.of_below HI.out.1.le (alloc_below _ _)).trans p2)⟩
      clear p1 p2
      go_wp2
      go_roundw
      case rel => exact ⟨i + 1, by omega, by go_num, HEE⟩
      case measure => simp [intOf]; omega
    · obtain rfl : i = n := by omega
      have HFL : Aside0 (rows.take i = rows) := ⟨List.take_of_length_le (by have := HN.out; omega)⟩
      go_wp2
      go_end0
      have := HI.out
      rw [HFL.out] at this
      refine ⟨rfl, ?_, this.2⟩
      unfold encRows
      rw [← HN.out, ← List.append_assoc]
      exact this.1
theorem zeros_lot : (#[.string ⟨#[]⟩, .string ⟨#[]⟩, .int .i64 0] : Array Value) = (ks_lot.map zeroV).toArray := rfl
set_option maxHeartbeats 8000000 in
set_option maxRecDepth 100000 in
theorem list_lot_r {wb hb j : Nat} {s : Rd} {HT : TypeId} {hcs : List Value} {w : World} (h : Rw wb s w) (hh : Cs hb HT hcs w) (hj : hcs[j]? = some (.slice none 0 0)) (hne : hb ≠ wb) (hHT : HT ≠ 62) (hl : s.D.length ≤ 100000000) :
    Calls Tryz.prog 56 #[.pointer (some ⟨wb, 0, none⟩), .pointer (some ⟨hb, j, none⟩), .func (.func 57) #[] #[]] w (ListRd wb hb j HT 62 3 hcs (rdList ks_lot s) w) := by
  obtain ⟨i0, hI0, hz0, hz1, hz2⟩ := infoParts info_lot
  obtain ⟨tn, htn⟩ : ∃ tn, tn = (takeN s).1 := ⟨_, rfl⟩
  obtain ⟨s1, hs1⟩ : ∃ s1, s1 = (takeN s).2 := ⟨_, rfl⟩
  obtain ⟨s2, hs2⟩ : ∃ s2, s2 = (counted s).2 := ⟨_, rfl⟩
  have ctk := take_r h (by omega)
  rw [← htn, ← hs1] at ctk
  have htl : tn < 9223372036854775808 := by rw [htn]; exact take_lt s
  have hsl : s1.D.length ≤ 100000000 := by rw [hs1]; exact Nat.le_trans (take_len s) hl
  have hjl : j < hcs.length := (List.getElem?_eq_some_iff.1 hj).1
  have HG : Aside0 (rdList ks_lot s = rdRows ks_lot tn s2) := ⟨by unfold rdList; rw [hs2, htn]; rfl⟩
  have HE2 : Aside0 (s2 = if s1.D.length < tn then s1.fail else s1) := ⟨by rw [hs2, hs1, htn]; rfl⟩
  have hwc := h.cells.1
  have HH := Aside0.mk (And.intro hh hj)
  have HNE := Aside0.mk (And.intro hne hHT)
  have HHT := Aside0.mk (show hb < w.heap.size ∧ wb < w.heap.size from ⟨hh.lt, Cs.lt h⟩)
  clear h hh hj hHT htn hs1 hs2
  go_enter Tryz.func56, Tryz.ntmps56
  go_wp2_with (fail)
  refine ctk.mono ?_
  rintro e wA ⟨rfl, p1, p2⟩
  have HA : Aside0 (Rw wb s1 wA ∧ Cs hb HT hcs wA ∧ Fr (fun i => i = wb ∨ i = hb) w wA) := ⟨p1, HH.out.1.keep (p2.block hb HH.out.1.lt hne), ⟨p2.os, p2.tape, p2.output, p2.size, fun i hi hn => p2.block i hi fun q => hn (.inl q)⟩⟩
  clear p1 p2 ctk
  obtain ⟨a0, a1, a2, af⟩ := HA.out.1.cells
  obtain ⟨D1, hD1⟩ : ∃ D1 : ByteArray, D1 = ⟨s1.D.toArray⟩ := ⟨_, rfl⟩
  have hD1s : D1.size = s1.D.length := by rw [hD1, size_mk]
  rw [← hD1] at a1
  have HDS := Aside0.mk hD1s
  clear hD1 hD1s
  have hbd : s2.bad = true ∨ tn ≤ 100000000 := by
    rw [HE2.out]
    by_cases hgt : s1.D.length < tn
    · rw [if_pos hgt]; exact .inl rfl
    · right; omega
  have HBD := Aside0.mk hbd
  clear hbd
  go_upto_if 47 with (fail)
  go_cut [] (fun wx => LRd wb hb j HT 62 3 hcs w.heap.size (s2, []) (.slice none 0 0) w wx)
  case first =>
    have hset : hcs.set j (.slice none 0 0) = hcs := by
      apply List.ext_getElem?
      intro q
      rw [List.getElem?_set]
      split
      · rename_i hq
        subst hq
        exact HH.out.2.symm
      · rfl
    have HSET := Aside0.mk hset
    clear hset
    by_cases hgt : s1.D.length < tn
    · have hgt' : (D1.size : Int) < (tn : Int) := by have := HDS.out; omega
      have HGT := Aside0.mk hgt
      clear hgt
      go_wp2
      go_meet
      refine ⟨?_, ?_, World.ownsRow_nil _ _ _ _, HA.out.2.2.set _ _ (.inl (.inl rfl))⟩
      · show Rw wb s2 _
        rw [HE2.out, if_pos HGT.out]
        exact HA.out.1.isBad
      · rw [HSET.out]
        exact Cs.other HA.out.2.1 _ _ (Ne.symm hne)
    · have hgt' : ¬(D1.size : Int) < (tn : Int) := by have := HDS.out; omega
      have HGT := Aside0.mk hgt
      clear hgt
      go_wp2
      go_meet
      refine ⟨?_, ?_, World.ownsRow_nil _ _ _ _, HA.out.2.2⟩
      · show Rw wb s2 _
        rw [HE2.out, if_neg HGT.out]
        exact HA.out.1
      · rw [HSET.out]
        exact HA.out.2.1
  case rest =>
    have HX := Aside0.mk hcut
    clear hcut a0 a1 a2 af HA hwc
    go_wp2_with (fail)
    go_loopw [9] (fun v9 wr => ∃ (i : Nat) (st : Rd) (rows : List (List Value)) (v : Value), i ≤ tn ∧ rows.length = i ∧ v9 = .int .i64 i ∧ Aside0 (st.D.length ≤ 100000000) ∧ Aside0 (st.bad = true ∨ tn ≤ 100000000) ∧ Aside0 (rdRows ks_lot tn s2 = ((rdRows ks_lot (tn - i) st).1, rows ++ (rdRows ks_lot (tn - i) st).2)) ∧ Aside0 (LRd wb hb j HT 62 3 hcs w.heap.size (st, rows) v w wr)) (fun v9 _ => tn - (intOf v9).toNat)
    case atStart => exact ⟨0, s2, [], _, by omega, rfl, rfl, ⟨by rw [HE2.out]; split <;> exact hsl⟩, HBD, ⟨by simp⟩, HX⟩
    case round =>
      obtain ⟨i, st, rows, v, hi, hrl, rfl, HSL, HBT, HRE, HI⟩ := hrel
      clear HX HBD
      obtain ⟨A, c, rfl⟩ : ∃ A c, v = .slice A i c := by rw [← hrl]; exact own_shape HI.out.row
      have HRL := Aside0.mk hrl
      clear hrl
      obtain ⟨b0, b1, b2, bf⟩ := HI.out.rw.cells
      obtain ⟨qb, hbad⟩ : ∃ q, q = st.bad := ⟨_, rfl⟩
      rw [show (st, rows).1.bad = qb from hbad.symm] at b2
      have HBB := Aside0.mk hbad
      clear hbad
      cases qb with
      | true =>
        have HFN : Aside0 (rdList ks_lot s = (st, rows)) := ⟨by
          rw [HG.out, HRE.out]
          rw [rows_done _ _ st HBB.out.symm]
          simp⟩
        by_cases hlt : i < tn
        all_goals
          go_wp2
          go_end0
          refine ⟨rfl, .slice A i c, ?_⟩
          rw [HFN.out]
          exact HI.out
      | false =>
        by_cases hlt : i < tn
        · have htb : tn ≤ 100000000 := HBT.out.resolve_left (by rw [← HBB.out]; simp)
          have HNX : Aside0 (rdRows ks_lot tn s2 = ((rdRows ks_lot (tn - (i + 1)) (rds ks_lot st (ks_lot.map zeroV)).1).1, (rows ++ [(rds ks_lot st (ks_lot.map zeroV)).2]) ++ (rdRows ks_lot (tn - (i + 1)) (rds ks_lot st (ks_lot.map zeroV)).1).2)) := ⟨by
            rw [HRE.out, show tn - i = (tn - (i + 1)) + 1 from by omega]
            rw [rows_more _ _ st HBB.out.symm]
            simp⟩
          have HFX : Aside0 (Fits ks_lot (rds ks_lot st (ks_lot.map zeroV)).2) := ⟨fits_rds _ _ _ (fits_zero _)⟩
          have HDL : Aside0 ((rds ks_lot st (ks_lot.map zeroV)).1.D.length ≤ 100000000) := ⟨by
            rw [← rd_all _ _ _ (by simp)]
            exact Nat.le_trans (rdAt_len _ _).1 HSL.out⟩
          have HRD : Aside0 (rdAt sc_lot (st, ks_lot.map zeroV) = rds ks_lot st (ks_lot.map zeroV)) := ⟨by rw [sc_lot_all]; exact rd_all _ _ _ (by simp)⟩
          obtain ⟨p, hp⟩ : ∃ p, p = rds ks_lot st (ks_lot.map zeroV) := ⟨_, rfl⟩
          rw [← hp] at HNX HFX HRD HDL
          clear hp HRE
          obtain ⟨st', x⟩ := p
          simp only at HNX HFX HDL
          have hlw := Cs.lt HI.out.rw
          have hlh := HI.out.cs.lt
          go_wp2_with (fail)
          have HZ : Aside0 (Rw wb st (wr.alloc (.cells #[.string ⟨#[]⟩, .string ⟨#[]⟩, .int .i64 0] 62)) ∧ Cs wr.heap.size 62 (ks_lot.map zeroV) (wr.alloc (.cells #[.string ⟨#[]⟩, .string ⟨#[]⟩, .int .i64 0] 62))) := ⟨Rw.below HI.out.rw (alloc_below _ _), cs_alloc _ _ _ _ zeros_lot⟩
          have HSC : Aside0 (∀ y ∈ sc_lot, y.2 < (ks_lot.map zeroV).length) := ⟨by decide⟩
          refine (lot_r HZ.out.1 HZ.out.2 (by omega) HSC.out (Nat.le_trans HSL.out (by decide))).mono ?_
          rintro e wE ⟨rfl, p1, p2, p3⟩
          rw [HRD.out] at p1 p2
          simp only at p1 p2
          have HE : Aside0 (Rw wb st' wE ∧ Cs wr.heap.size 62 x wE ∧ Cs hb HT (hcs.set j (.slice A i c)) wE ∧ wE.ownsRow w.heap.size 62 3 (.slice A i c) rows.length rows.flatten ∧ Fr (fun i => i = wb ∨ i = hb) w wE) := ⟨by
            have q1 : ∀ b, b < wr.heap.size → b ≠ wb → wE.heap[b]? = wr.heap[b]? := fun b hb' hbw => (p3.block b (by simp; omega) (by rintro (q | q) <;> omega)).trans ((alloc_below wr _).block b hb')
            refine ⟨p1, p2, HI.out.cs.keep (q1 hb hlh hne), own_same HI.out.row fun g hg => q1 g (HI.out.row.lt g hg).2 (fun q => own_ne HI.out.row HI.out.rw (by decide) (by rw [hg, q])), (HI.out.fr.trans (Fr.of_below (alloc_below wr _)) fun i hi => .inl hi).trans p3 fun i hi => ?_⟩
            rcases hi with rfl | rfl
            · exact .inl (.inl rfl)
            · exact .inr HI.out.fr.size⟩
          have hxl : x.length = 3 := fits_len HFX.out
          have HX1 : Aside0 (∀ v ∈ x, v.oneCell' = true) := ⟨fits_one HFX.out⟩
          clear p1 p2 p3 HZ
          have c0 : wE.cell? ⟨hb, j, none⟩ = some (.slice A i c) := by rw [HE.out.2.2.1.cell, List.getElem?_set_self hjl]
          have f0 : wE.frozen? ⟨hb, j, none⟩ = false := HE.out.2.2.1.frozen j
          have hXB : Aside0 (∀ g, (Value.slice A i c).ownBlock = some g → g < wr.heap.size) := ⟨fun g hg => (HI.out.row.lt g hg).2⟩
          have hnh : (Value.slice A i c).ownBlock ≠ some hb := own_ne HE.out.2.2.2.1 HE.out.2.2.1 (Ne.symm HNE.out.2)
          obtain ⟨XB, hxb⟩ : ∃ XB, XB = wr.heap.size := ⟨_, rfl⟩
          rw [← hxb]
          rw [← hxb] at HE hXB
          have hnx : (Value.slice A i c).ownBlock ≠ some XB := fun e => by have := hXB.out XB e; omega
          have r0 : wE.rangeAt XB 0 x := fun q v hv => by rw [Nat.zero_add, HE.out.2.1.cell]; exact hv
          have hxlt := HE.out.2.1.lt
          have hhlt := HE.out.2.2.1.lt
          have hwlt := Cs.lt HE.out.1
          have hu := Tryz.underlying62
          have hi' : (Tryz.prog.info? 62).map (·.size) = some x.length := by rw [size_lot, hxl]
          have HXL := Aside0.mk hxl
          have HBS : Aside0 (w.heap.size ≤ wE.heap.size) := ⟨HE.out.2.2.2.2.size⟩
          have HXH : Aside0 (hb < XB) := ⟨by rw [hxb]; exact hlh⟩
          clear hxb hxl HI
          go_upto_region 15 with (fail)
          obtain ⟨WA, hWA⟩ : ∃ WA, WA = wE.drew.alloc (.cells x.toArray 62) := ⟨_, rfl⟩
          have HWB : Aside0 (Below wE.heap.size wE WA) := ⟨by rw [hWA]; have b := alloc_below wE (.cells x.toArray 62); exact ⟨b.os, b.tape, b.output, b.size, b.block⟩⟩
          have HRO : Aside0 (WA.ownsRow w.heap.size 62 3 (.slice A i c) i rows.flatten) := ⟨by have := HE.out.2.2.2.1.drew.alloc (.cells x.toArray 62); rw [HRL.out] at this; rw [hWA]; exact this⟩
          have HSZ : Aside0 (WA.heap.size = wE.heap.size + 1) := ⟨by rw [hWA]; simp⟩
          have HBA : Aside0 (w.heap.size ≤ WA.heap.size) := ⟨by have := HSZ.out; have := HBS.out; omega⟩
          have HRA : Aside0 (WA.rangeAt XB 0 x) := ⟨fun q v hv => by rw [World.cell?_of_block (HWB.out.block XB hxlt)]; exact r0 q v hv⟩
          have HFA : Aside0 (WA.frozen? ⟨hb, j, none⟩ = false) := ⟨by rw [World.frozen?_of_block (HWB.out.block hb hhlt)]; exact f0⟩
          have HCA : Aside0 (WA.cell? ⟨hb, j, none⟩ = some (.slice A i c)) := ⟨by rw [World.cell?_of_block (HWB.out.block hb hhlt)]; exact c0⟩
          have hxh : XB ≠ hb := fun e => by have := HXH.out; omega
          subst hWA
          refine wp_region_held_drew (S := (fun w' => w'.rangeAt XB 0 x)) (by kernel_rfl) ?_ (fun hHeld => ?_)
          · exact r0
          refine' wpAnyH_take (i := 0) (v := _) rfl (by kernel_rfl) (by kernel_rfl) (by kernel_rfl) (fun _ _ _ h => h) ?hy1 (by assumption) ?rs1
          case hy1 => exact .inl ⟨by rfl, by intro w' hSw; go_simp; (try with_reducible rfl)⟩
          (try simp only [Act.put, List.setIfInBounds_toArray, List.set_cons_zero, List.set_cons_succ, List.getElem_toArray, List.getElem_cons_zero, List.getElem_cons_succ])
          refine' wpAnyH_take (i := 1) (v := _) rfl (by kernel_rfl) (by kernel_rfl) (by kernel_rfl) (fun _ _ _ h => h) ?hy2 (by assumption) ?rs2
          case hy2 => exact .inl ⟨by rfl, by intro w' hSw; go_simp; (try with_reducible rfl)⟩
          (try simp only [Act.put, List.setIfInBounds_toArray, List.set_cons_zero, List.set_cons_succ, List.getElem_toArray, List.getElem_cons_zero, List.getElem_cons_succ])
          refine' wpAnyH_take (i := 2) (v := _) rfl (by kernel_rfl) (by kernel_rfl) (by kernel_rfl) (fun _ _ _ h => h) ?hy3 (by assumption) ?rs3
          case hy3 => exact .inl ⟨by rfl, by intro w' hSw; go_simp; (try with_reducible rfl)⟩
          (try simp only [Act.put, List.setIfInBounds_toArray, List.set_cons_zero, List.set_cons_succ, List.getElem_toArray, List.getElem_cons_zero, List.getElem_cons_succ])
          refine' wpAnyH_take (i := 4) (v := _) rfl (by kernel_rfl) (by kernel_rfl) (by kernel_rfl) (fun _ _ _ h => h) ?hy4 (by assumption) ?rs4
          case hy4 =>
            refine yieldsIf_load_mid ?ya 62 (.tmp 10) ?yb XB 0 ?yc x _ ?yd hu rfl hi'
            case ya => rfl
            case yb => rfl
            case yc => rfl
            case yd => exact fun w' hS => hS
          (try simp only [Act.put, List.setIfInBounds_toArray, List.set_cons_zero, List.set_cons_succ, List.getElem_toArray, List.getElem_cons_zero, List.getElem_cons_succ])
          refine wpAnyH_ready (rs := [3, 5]) (by kernel_rfl) (by simp) ?_
          refine AllReadyH.cons rfl (fun K hK => ?_) (AllReadyH.cons rfl (fun K hK => ?_) AllReadyH.nil)
          · go_simp
            refine hK.out _ _ ?_ (fun hHeld => ?_)
            · exact r0
            clear hK K
            (try simp only [Act.put, List.setIfInBounds_toArray, List.set_cons_zero, List.set_cons_succ, List.getElem_toArray, List.getElem_cons_zero, List.getElem_cons_succ])
            refine wpAnyH_ready (rs := [5]) (by kernel_rfl) (by simp) ?_
            refine AllReadyH.cons rfl (fun K hK => ?_) AllReadyH.nil
            refine step_build_one rfl 23 62 (.tmp 70) rfl x rfl i0 _ 3 Tryz.underlying23 hI0 hz0 hz1 HXL.out (by decide) (by decide) ?_
            refine hK.out _ _ ?_ (fun hHeld => ?_)
            · exact HRA.out
            clear hK K
            (try simp only [Act.put, List.setIfInBounds_toArray, List.set_cons_zero, List.set_cons_succ, List.getElem_toArray, List.getElem_cons_zero, List.getElem_cons_succ])
            refine wpAnyH_ready (rs := [6]) (by kernel_rfl) (by simp) ?_
            refine AllReadyH.cons rfl (fun K hK => ?_) AllReadyH.nil
            refine step_append_lies _ rfl (.tmp 69) (.tmp 71) 23 rfl w.heap.size 62 i0 _ 3 40 Tryz.underlying23 hI0 hz0 hz1 hz2 rfl (by decide) (.slice A i c) i rows.flatten rfl HRO.out ⟨wE.heap.size, 0, none⟩ 1 1 x rfl (by rw [HXL.out]) (World.news_of_block (cs := x.toArray) (t := 62) (fr := (0, 0)) (heap_alloc_new wE _)) HX1.out (by decide) (by unfold maxLen; omega) (by omega) HBA.out (wE.heap.size + 1) HSZ.out ?_
            intro gg cap w1 hown1 hgrow hat hlt1
            have HOW := Aside0.mk (And.intro hown1 (And.intro hgrow (And.intro hat hlt1)))
            have g1 : w1.rangeAt XB 0 x := fun q v hv => by
              rw [HOW.out.2.1.cell_far _ (Nat.lt_of_lt_of_le hxlt HWB.out.size) (Ne.symm hnx)]
              exact HRA.out q v hv
            have g2 : w1.frozen? ⟨hb, j, none⟩ = false := by
              rw [HOW.out.2.1.frozen_far _ (Nat.lt_of_lt_of_le hhlt HWB.out.size) (Ne.symm hnh)]
              exact HFA.out
            have g3 : w1.cell? ⟨hb, j, none⟩ = some (.slice A i c) := by
              rw [HOW.out.2.1.cell_far _ (Nat.lt_of_lt_of_le hhlt HWB.out.size) (Ne.symm hnh)]
              exact HCA.out
            clear hown1 hgrow hat
            refine hK.out _ _ ?_ (fun hHeld => ?_)
            · exact g1
            clear hK K
            (try simp only [Act.put, List.setIfInBounds_toArray, List.set_cons_zero, List.set_cons_succ, List.getElem_toArray, List.getElem_cons_zero, List.getElem_cons_succ])
            refine' wpAnyH_take (i := 7) (v := _) rfl (by kernel_rfl) (by kernel_rfl) (by kernel_rfl) (fun _ _ _ h => h) ?hy5 (by assumption) ?rs5
            case hy5 => exact .inl ⟨by rfl, by intro w' hSw; go_simp; (try with_reducible rfl)⟩
            (try simp only [Act.put, List.setIfInBounds_toArray, List.set_cons_zero, List.set_cons_succ, List.getElem_toArray, List.getElem_cons_zero, List.getElem_cons_succ])
            refine wpAnyH_ready (rs := [8]) (by kernel_rfl) (by simp) ?_
            refine AllReadyH.cons rfl (fun K hK => ?_) AllReadyH.nil
            go_simp
            refine hK.out _ _ ?_ (fun hHeld => ?_)
            · exact fun q v hv => by rw [World.cell?_of_block (Below.heap_setCell w1 ⟨hb, j, none⟩ _ XB hxh)]; exact g1 q v hv
            clear hK K
            (try simp only [Act.put, List.setIfInBounds_toArray, List.set_cons_zero, List.set_cons_succ, List.getElem_toArray, List.getElem_cons_zero, List.getElem_cons_succ])
            refine wpAnyH_done (by kernel_rfl) ?_ _
            go_wp2
            go_roundw
            case rel =>
              have hgg : (Value.slice (some ⟨gg, 0, none⟩) (i + 1) cap).ownBlock ≠ some hb := by
                intro e
                have e' : gg = hb := by simpa [Value.ownBlock] using e
                rcases HOW.out.2.2.1 with q | q
                · exact hnh (by rw [q, e'])
                · omega
              refine ⟨i + 1, st', rows ++ [x], .slice (some ⟨gg, 0, none⟩) (i + 1) cap, by omega, by simp [HRL.out], by go_num, HDL, ⟨.inr htb⟩, HNX, ⟨?_⟩⟩
              have hr' := HRL.out
              subst hr'
              exact (LRd.push (st' := st') rfl HNE.out.2 (by decide) (Rw.below HE.out.1 HWB.out) (HE.out.2.2.1.keep (HWB.out.block hb hhlt)) HRO.out (HE.out.2.2.2.2.trans (Fr.of_below HWB.out) fun i hi => .inl hi) HOW.out.1 HOW.out.2.1 HNE.out.1 hgg)
            case measure => simp [intOf]; omega
          · refine step_build_one rfl 23 62 (.tmp 70) rfl x rfl i0 _ 3 Tryz.underlying23 hI0 hz0 hz1 HXL.out (by decide) (by decide) ?_
            refine hK.out _ _ ?_ (fun hHeld => ?_)
            · exact HRA.out
            clear hK K
            (try simp only [Act.put, List.setIfInBounds_toArray, List.set_cons_zero, List.set_cons_succ, List.getElem_toArray, List.getElem_cons_zero, List.getElem_cons_succ])
            have k0 := HCA.out
            refine wpAnyH_ready (rs := [3]) (by kernel_rfl) (by simp) ?_
            refine AllReadyH.cons rfl (fun K hK => ?_) AllReadyH.nil
            go_simp
            refine hK.out _ _ ?_ (fun hHeld => ?_)
            · exact HRA.out
            clear hK K
            (try simp only [Act.put, List.setIfInBounds_toArray, List.set_cons_zero, List.set_cons_succ, List.getElem_toArray, List.getElem_cons_zero, List.getElem_cons_succ])
            refine wpAnyH_ready (rs := [6]) (by kernel_rfl) (by simp) ?_
            refine AllReadyH.cons rfl (fun K hK => ?_) AllReadyH.nil
            refine step_append_lies _ rfl (.tmp 69) (.tmp 71) 23 rfl w.heap.size 62 i0 _ 3 40 Tryz.underlying23 hI0 hz0 hz1 hz2 rfl (by decide) (.slice A i c) i rows.flatten rfl HRO.out ⟨wE.heap.size, 0, none⟩ 1 1 x rfl (by rw [HXL.out]) (World.news_of_block (cs := x.toArray) (t := 62) (fr := (0, 0)) (heap_alloc_new wE _)) HX1.out (by decide) (by unfold maxLen; omega) (by omega) HBA.out (wE.heap.size + 1) HSZ.out ?_
            intro gg cap w1 hown1 hgrow hat hlt1
            have HOW := Aside0.mk (And.intro hown1 (And.intro hgrow (And.intro hat hlt1)))
            have g1 : w1.rangeAt XB 0 x := fun q v hv => by
              rw [HOW.out.2.1.cell_far _ (Nat.lt_of_lt_of_le hxlt HWB.out.size) (Ne.symm hnx)]
              exact HRA.out q v hv
            have g2 : w1.frozen? ⟨hb, j, none⟩ = false := by
              rw [HOW.out.2.1.frozen_far _ (Nat.lt_of_lt_of_le hhlt HWB.out.size) (Ne.symm hnh)]
              exact HFA.out
            have g3 : w1.cell? ⟨hb, j, none⟩ = some (.slice A i c) := by
              rw [HOW.out.2.1.cell_far _ (Nat.lt_of_lt_of_le hhlt HWB.out.size) (Ne.symm hnh)]
              exact HCA.out
            clear hown1 hgrow hat
            refine hK.out _ _ ?_ (fun hHeld => ?_)
            · exact g1
            clear hK K
            (try simp only [Act.put, List.setIfInBounds_toArray, List.set_cons_zero, List.set_cons_succ, List.getElem_toArray, List.getElem_cons_zero, List.getElem_cons_succ])
            refine' wpAnyH_take (i := 7) (v := _) rfl (by kernel_rfl) (by kernel_rfl) (by kernel_rfl) (fun _ _ _ h => h) ?hy6 (by assumption) ?rs6
            case hy6 => exact .inl ⟨by rfl, by intro w' hSw; go_simp; (try with_reducible rfl)⟩
            (try simp only [Act.put, List.setIfInBounds_toArray, List.set_cons_zero, List.set_cons_succ, List.getElem_toArray, List.getElem_cons_zero, List.getElem_cons_succ])
            refine wpAnyH_ready (rs := [8]) (by kernel_rfl) (by simp) ?_
            refine AllReadyH.cons rfl (fun K hK => ?_) AllReadyH.nil
            go_simp
            refine hK.out _ _ ?_ (fun hHeld => ?_)
            · exact fun q v hv => by rw [World.cell?_of_block (Below.heap_setCell w1 ⟨hb, j, none⟩ _ XB hxh)]; exact g1 q v hv
            clear hK K
            (try simp only [Act.put, List.setIfInBounds_toArray, List.set_cons_zero, List.set_cons_succ, List.getElem_toArray, List.getElem_cons_zero, List.getElem_cons_succ])
            refine wpAnyH_done (by kernel_rfl) ?_ _
            go_wp2
            go_roundw
            case rel =>
              have hgg : (Value.slice (some ⟨gg, 0, none⟩) (i + 1) cap).ownBlock ≠ some hb := by
                intro e
                have e' : gg = hb := by simpa [Value.ownBlock] using e
                rcases HOW.out.2.2.1 with q | q
                · exact hnh (by rw [q, e'])
                · omega
              refine ⟨i + 1, st', rows ++ [x], .slice (some ⟨gg, 0, none⟩) (i + 1) cap, by omega, by simp [HRL.out], by go_num, HDL, ⟨.inr htb⟩, HNX, ⟨?_⟩⟩
              have hr' := HRL.out
              subst hr'
              exact (LRd.push (st' := st') rfl HNE.out.2 (by decide) (Rw.below HE.out.1 HWB.out) (HE.out.2.2.1.keep (HWB.out.block hb hhlt)) HRO.out (HE.out.2.2.2.2.trans (Fr.of_below HWB.out) fun i hi => .inl hi) HOW.out.1 HOW.out.2.1 HNE.out.1 hgg)
            case measure => simp [intOf]; omega
        · obtain rfl : i = tn := by omega
          have HFN : Aside0 (rdList ks_lot s = (st, rows)) := ⟨by
            rw [HG.out, HRE.out, Nat.sub_self]
            simp [rdRows]⟩
          go_wp2
          go_end0
          refine ⟨rfl, .slice A i c, ?_⟩
          rw [HFN.out]
          exact HI.out
/-! ### list: zone -/
def ks_zone : List K := [.t, .t]
theorem sc_zone_all : sc_zone = scOf 0 ks_zone := by rfl
theorem size_zone : (Tryz.prog.info? 65).map (·.size) = some 2 := by kernel_rfl
theorem info_zone : (Tryz.prog.info? 65).map (fun i => (i.zero, i.size, i.bytes)) = some (some (.agg #[.string ⟨#[]⟩, .string ⟨#[]⟩]), 2, 32) := by kernel_rfl
set_option maxHeartbeats 8000000 in
set_option maxRecDepth 100000 in
theorem list_zone_w {B wb bb hb j c : Nat} {A : Option Addr} {bs : List UInt8} {rows : List (List Value)} {w : World} (h : Wr B wb bb bs w) (hc : w.cell? ⟨hb, j, none⟩ = some (.slice A rows.length c)) (hst : Stay B bb w hb) (hr : RowsAt B bb w A 2 rows)
    (hf : ∀ x ∈ rows, Fits ks_zone x) (hn : rows.length ≤ c) (hn2 : rows.length ≤ 100000000) (hl : bs.length + (encRows rows).length ≤ 140737488355328) :
    Calls Tryz.prog 60 #[.pointer (some ⟨wb, 0, none⟩), .pointer (some ⟨hb, j, none⟩), .func (.func 61) #[] #[]] w (Writ B wb bb (bs ++ encRows rows) w) := by
  obtain ⟨n, hnn⟩ : ∃ n, n = rows.length := ⟨_, rfl⟩
  rw [← hnn] at hc hn hn2
  have HN := Aside0.mk hnn
  have H := Aside0.mk h
  have HST := Aside0.mk hst
  have HR := Aside0.mk hr
  have HF := Aside0.mk hf
  have HL : Aside0 (bs.length + (digits n).length + (rows.flatMap encs).length ≤ 140737488355328) := ⟨by unfold encRows at hl; rw [List.length_append, ← hnn] at hl; omega⟩
  have hwc := h.out
  have HC := Aside0.mk hc
  clear h hst hr hf hl hnn
  go_enter Tryz.func60, Tryz.ntmps60
  go_upto_region 1 with (fail)
  go_region_held3 (fun w' => w'.cell? ⟨wb, 0, none⟩ = some (.pointer (some ⟨bb, 0, none⟩)) ∧ w'.cell? ⟨hb, j, none⟩ = some (.slice A n c)) (first | (go_split_ands; assumption) | (refine ⟨?_, ?_⟩ <;> assumption) | go_keep) (first
    | (go_at_call 94; refine (put_any n (by omega) _ _ (by simp)).mono ?_; rintro e wB ⟨rfl, hk⟩; have hk' : Below w.heap.size w wB := ((alloc_below w _).trans (⟨hk.os, hk.tape, hk.output, hk.size, fun i hi => hk.block i (by simp; omega)⟩ : Below w.heap.size (w.alloc _) wB)); have HB : Aside0 (Wr B wb bb bs wB ∧ Wk B bb w wB) := ⟨H.out.below hk', Wk.of_below H.out.le hk'⟩; clear hk hk'; have g0 := HB.out.1.out; have g1 : wB.cell? ⟨hb, j, none⟩ = some (.slice A n c) := by rw [Stay.cell HST.out HB.out.2]; exact HC.out)
    | (go_at_call 93; refine (HB.out.1.write (digits n) (by have := HL.out; omega)).mono ?_; rintro e wC ⟨⟨z', rfl⟩, hk1, hk2⟩; have HCC : Aside0 (Wr B wb bb (bs ++ digits n) wC ∧ Wk B bb w wC) := ⟨hk1, HB.out.2.trans hk2⟩; clear hk1 hk2; have k0 := HCC.out.1.out; have k1 : wC.cell? ⟨hb, j, none⟩ = some (.slice A n c) := by rw [Stay.cell HST.out HCC.out.2]; exact HC.out)
    | fail)
  go_wp2_with (fail)
  go_loopw [31] (fun v31 wr => ∃ i : Nat, i ≤ n ∧ v31 = .int .i64 i ∧ Aside0 (Wr B wb bb (bs ++ digits n ++ (rows.take i).flatMap encs) wr ∧ Wk B bb w wr)) (fun v31 _ => n - (intOf v31).toNat)
  case atStart => exact ⟨0, by omega, rfl, ⟨by simpa using HCC.out.1, HCC.out.2⟩⟩
  case round =>
    obtain ⟨i, hi, rfl, HI⟩ := hrel
    clear g0 g1 k0 k1 HB HCC
    by_cases hlt : i < n
    · have hil : i < rows.length := by have := HN.out; omega
      obtain ⟨x, hx⟩ : ∃ x, rows[i]? = some x := ⟨_, List.getElem?_eq_getElem hil⟩
      have hxf := HF.out x (List.mem_of_getElem? hx)
      obtain ⟨ad, rfl, hsa, hca⟩ := (HR.out.next HI.out.2).at_ (by omega)
      have hcx := hca i x hx
      have hxl : x.length = 2 := fits_len hxf
      have HE : Aside0 ((rows.take (i + 1)).flatMap encs = (rows.take i).flatMap encs ++ encs x) := ⟨rows_take rows i x hx⟩
      have HLX : Aside0 ((bs ++ digits n ++ (rows.take i).flatMap encs).length + (encs x).length ≤ 140737488355328) := ⟨by
        have h1 := HL.out
        have h2 := rows_le rows (i + 1)
        rw [HE.out, List.length_append] at h2
        simp only [List.length_append]; omega⟩
      have HXF := Aside0.mk hxf
      have HXL := Aside0.mk hxl
      have HCX : Aside0 (∀ m v, x[m]? = some v → wr.cell? ((ad.add (i * 2)).add m) = some v) := ⟨fun m v hv => by rw [add_of_add]; exact hcx m v hv⟩
      have HX1 : Aside0 (x.toArray.all (·.oneCell') = true) := ⟨all_oneCell_toArray (fits_one hxf)⟩
      clear hx hxf hsa hca hcx hxl
      go_wp2_with (first
        | ((with_reducible refine wpList_load_at (op := ⟨some 34, _, _, _, _, _⟩) ?a1 65 (.tmp 33) ?a2 (ad.add (i * 2)) ?a3 x _ HCX.out Tryz.underlying65 ?a4 ?a5 ?a6); (case a1 => rfl); (case a2 => rfl); (case a3 => rfl); (case a4 => rfl); (case a5 => (rw [size_zone, HXL.out])))
        | ((with_reducible refine wpList_store_new (op := ⟨none, Op.store _ (.tmp 7) (.tmp 34), _, _, _, _⟩) ?b1 65 (.tmp 7) (.tmp 34) ?b2 #[.string ⟨#[]⟩, .string ⟨#[]⟩] x.toArray ?b3 ?b4 ?b5 ?b6 HX1.out ?b7); (case b1 => rfl); (case b2 => rfl); (case b3 => rfl); (case b4 => rfl); (case b5 => (rw [size_zone]; simp [HXL.out])); (case b6 => simp [HXL.out])))
      have HWX : Aside0 (Wr B wb bb (bs ++ digits n ++ (rows.take i).flatMap encs) (wr.alloc (.cells x.toArray 65)) ∧ Cs wr.heap.size 65 x (wr.alloc (.cells x.toArray 65))) := ⟨HI.out.1.below (alloc_below _ _), cs_alloc _ _ _ _ rfl⟩
      have HEX : Aside0 (encAt sc_zone x = encs x ∧ OkAt sc_zone x) := ⟨by rw [sc_zone_all]; exact ⟨enc_all _ _ (by rw [HXL.out]; rfl), ok_all _ _ HXF.out⟩⟩
      refine (zone_w HWX.out.1 HWX.out.2 (by decide) (by decide) HEX.out.2 (by rw [HEX.out.1]; exact HLX.out)).mono ?_
      rintro e wE ⟨rfl, p1, p2⟩
      have HEE : Aside0 (Wr B wb bb (bs ++ digits n ++ (rows.take (i + 1)).flatMap encs) wE ∧ Wk B bb w wE) := ⟨by rw [HE.out, ← List.append_assoc, ← HEX.out.1]; exact p1, HI.out.2.trans ((Wk.of_below HI.out.1.le (alloc_below _ _)).trans p2)⟩
      clear p1 p2
      go_wp2
      go_roundw
      case rel => exact ⟨i + 1, by omega, by go_num, HEE⟩
      case measure => simp [intOf]; omega
    · obtain rfl : i = n := by omega
      have HFL : Aside0 (rows.take i = rows) := ⟨List.take_of_length_le (by have := HN.out; omega)⟩
      go_wp2
      go_end0
      have := HI.out
      rw [HFL.out] at this
      refine ⟨rfl, ?_, this.2⟩
      unfold encRows
      rw [← HN.out, ← List.append_assoc]
      exact this.1
theorem zeros_zone : (#[.string ⟨#[]⟩, .string ⟨#[]⟩] : Array Value) = (ks_zone.map zeroV).toArray := rfl
set_option maxHeartbeats 8000000 in
set_option maxRecDepth 100000 in
theorem list_zone_r {wb hb j : Nat} {s : Rd} {HT : TypeId} {hcs : List Value} {w : World} (h : Rw wb s w) (hh : Cs hb HT hcs w) (hj : hcs[j]? = some (.slice none 0 0)) (hne : hb ≠ wb) (hHT : HT ≠ 65) (hl : s.D.length ≤ 100000000) :
    Calls Tryz.prog 60 #[.pointer (some ⟨wb, 0, none⟩), .pointer (some ⟨hb, j, none⟩), .func (.func 61) #[] #[]] w (ListRd wb hb j HT 65 2 hcs (rdList ks_zone s) w) := by
  obtain ⟨i0, hI0, hz0, hz1, hz2⟩ := infoParts info_zone
  obtain ⟨tn, htn⟩ : ∃ tn, tn = (takeN s).1 := ⟨_, rfl⟩
  obtain ⟨s1, hs1⟩ : ∃ s1, s1 = (takeN s).2 := ⟨_, rfl⟩
  obtain ⟨s2, hs2⟩ : ∃ s2, s2 = (counted s).2 := ⟨_, rfl⟩
  have ctk := take_r h (by omega)
  rw [← htn, ← hs1] at ctk
  have htl : tn < 9223372036854775808 := by rw [htn]; exact take_lt s
  have hsl : s1.D.length ≤ 100000000 := by rw [hs1]; exact Nat.le_trans (take_len s) hl
  have hjl : j < hcs.length := (List.getElem?_eq_some_iff.1 hj).1
  have HG : Aside0 (rdList ks_zone s = rdRows ks_zone tn s2) := ⟨by unfold rdList; rw [hs2, htn]; rfl⟩
  have HE2 : Aside0 (s2 = if s1.D.length < tn then s1.fail else s1) := ⟨by rw [hs2, hs1, htn]; rfl⟩
  have hwc := h.cells.1
  have HH := Aside0.mk (And.intro hh hj)
  have HNE := Aside0.mk (And.intro hne hHT)
  have HHT := Aside0.mk (show hb < w.heap.size ∧ wb < w.heap.size from ⟨hh.lt, Cs.lt h⟩)
  clear h hh hj hHT htn hs1 hs2
  go_enter Tryz.func60, Tryz.ntmps60
  go_wp2_with (fail)
  refine ctk.mono ?_
  rintro e wA ⟨rfl, p1, p2⟩
  have HA : Aside0 (Rw wb s1 wA ∧ Cs hb HT hcs wA ∧ Fr (fun i => i = wb ∨ i = hb) w wA) := ⟨p1, HH.out.1.keep (p2.block hb HH.out.1.lt hne), ⟨p2.os, p2.tape, p2.output, p2.size, fun i hi hn => p2.block i hi fun q => hn (.inl q)⟩⟩
  clear p1 p2 ctk
  obtain ⟨a0, a1, a2, af⟩ := HA.out.1.cells
  obtain ⟨D1, hD1⟩ : ∃ D1 : ByteArray, D1 = ⟨s1.D.toArray⟩ := ⟨_, rfl⟩
  have hD1s : D1.size = s1.D.length := by rw [hD1, size_mk]
  rw [← hD1] at a1
  have HDS := Aside0.mk hD1s
  clear hD1 hD1s
  have hbd : s2.bad = true ∨ tn ≤ 100000000 := by
    rw [HE2.out]
    by_cases hgt : s1.D.length < tn
    · rw [if_pos hgt]; exact .inl rfl
    · right; omega
  have HBD := Aside0.mk hbd
  clear hbd
  go_upto_if 47 with (fail)
  go_cut [] (fun wx => LRd wb hb j HT 65 2 hcs w.heap.size (s2, []) (.slice none 0 0) w wx)
  case first =>
    have hset : hcs.set j (.slice none 0 0) = hcs := by
      apply List.ext_getElem?
      intro q
      rw [List.getElem?_set]
      split
      · rename_i hq
        subst hq
        exact HH.out.2.symm
      · rfl
    have HSET := Aside0.mk hset
    clear hset
    by_cases hgt : s1.D.length < tn
    · have hgt' : (D1.size : Int) < (tn : Int) := by have := HDS.out; omega
      have HGT := Aside0.mk hgt
      clear hgt
      go_wp2
      go_meet
      refine ⟨?_, ?_, World.ownsRow_nil _ _ _ _, HA.out.2.2.set _ _ (.inl (.inl rfl))⟩
      · show Rw wb s2 _
        rw [HE2.out, if_pos HGT.out]
        exact HA.out.1.isBad
      · rw [HSET.out]
        exact Cs.other HA.out.2.1 _ _ (Ne.symm hne)
    · have hgt' : ¬(D1.size : Int) < (tn : Int) := by have := HDS.out; omega
      have HGT := Aside0.mk hgt
      clear hgt
      go_wp2
      go_meet
      refine ⟨?_, ?_, World.ownsRow_nil _ _ _ _, HA.out.2.2⟩
      · show Rw wb s2 _
        rw [HE2.out, if_neg HGT.out]
        exact HA.out.1
      · rw [HSET.out]
        exact HA.out.2.1
  case rest =>
    have HX := Aside0.mk hcut
    clear hcut a0 a1 a2 af HA hwc
    go_wp2_with (fail)
    go_loopw [9] (fun v9 wr => ∃ (i : Nat) (st : Rd) (rows : List (List Value)) (v : Value), i ≤ tn ∧ rows.length = i ∧ v9 = .int .i64 i ∧ Aside0 (st.D.length ≤ 100000000) ∧ Aside0 (st.bad = true ∨ tn ≤ 100000000) ∧ Aside0 (rdRows ks_zone tn s2 = ((rdRows ks_zone (tn - i) st).1, rows ++ (rdRows ks_zone (tn - i) st).2)) ∧ Aside0 (LRd wb hb j HT 65 2 hcs w.heap.size (st, rows) v w wr)) (fun v9 _ => tn - (intOf v9).toNat)
    case atStart => exact ⟨0, s2, [], _, by omega, rfl, rfl, ⟨by rw [HE2.out]; split <;> exact hsl⟩, HBD, ⟨by simp⟩, HX⟩
    case round =>
      obtain ⟨i, st, rows, v, hi, hrl, rfl, HSL, HBT, HRE, HI⟩ := hrel
      clear HX HBD
      obtain ⟨A, c, rfl⟩ : ∃ A c, v = .slice A i c := by rw [← hrl]; exact own_shape HI.out.row
      have HRL := Aside0.mk hrl
      clear hrl
      obtain ⟨b0, b1, b2, bf⟩ := HI.out.rw.cells
      obtain ⟨qb, hbad⟩ : ∃ q, q = st.bad := ⟨_, rfl⟩
      rw [show (st, rows).1.bad = qb from hbad.symm] at b2
      have HBB := Aside0.mk hbad
      clear hbad
      cases qb with
      | true =>
        have HFN : Aside0 (rdList ks_zone s = (st, rows)) := ⟨by
          rw [HG.out, HRE.out]
          rw [rows_done _ _ st HBB.out.symm]
          simp⟩
        by_cases hlt : i < tn
        all_goals
          go_wp2
          go_end0
          refine ⟨rfl, .slice A i c, ?_⟩
          rw [HFN.out]
          exact HI.out
      | false =>
        by_cases hlt : i < tn
        · have htb : tn ≤ 100000000 := HBT.out.resolve_left (by rw [← HBB.out]; simp)
          have HNX : Aside0 (rdRows ks_zone tn s2 = ((rdRows ks_zone (tn - (i + 1)) (rds ks_zone st (ks_zone.map zeroV)).1).1, (rows ++ [(rds ks_zone st (ks_zone.map zeroV)).2]) ++ (rdRows ks_zone (tn - (i + 1)) (rds ks_zone st (ks_zone.map zeroV)).1).2)) := ⟨by
            rw [HRE.out, show tn - i = (tn - (i + 1)) + 1 from by omega]
            rw [rows_more _ _ st HBB.out.symm]
            simp⟩
          have HFX : Aside0 (Fits ks_zone (rds ks_zone st (ks_zone.map zeroV)).2) := ⟨fits_rds _ _ _ (fits_zero _)⟩
          have HDL : Aside0 ((rds ks_zone st (ks_zone.map zeroV)).1.D.length ≤ 100000000) := ⟨by
            rw [← rd_all _ _ _ (by simp)]
            exact Nat.le_trans (rdAt_len _ _).1 HSL.out⟩
          have HRD : Aside0 (rdAt sc_zone (st, ks_zone.map zeroV) = rds ks_zone st (ks_zone.map zeroV)) := ⟨by rw [sc_zone_all]; exact rd_all _ _ _ (by simp)⟩
          obtain ⟨p, hp⟩ : ∃ p, p = rds ks_zone st (ks_zone.map zeroV) := ⟨_, rfl⟩
          rw [← hp] at HNX HFX HRD HDL
          clear hp HRE
          obtain ⟨st', x⟩ := p
          simp only at HNX HFX HDL
          have hlw := Cs.lt HI.out.rw
          have hlh := HI.out.cs.lt
          go_wp2_with (fail)
          have HZ : Aside0 (Rw wb st (wr.alloc (.cells #[.string ⟨#[]⟩, .string ⟨#[]⟩] 65)) ∧ Cs wr.heap.size 65 (ks_zone.map zeroV) (wr.alloc (.cells #[.string ⟨#[]⟩, .string ⟨#[]⟩] 65))) := ⟨Rw.below HI.out.rw (alloc_below _ _), cs_alloc _ _ _ _ zeros_zone⟩
          have HSC : Aside0 (∀ y ∈ sc_zone, y.2 < (ks_zone.map zeroV).length) := ⟨by decide⟩
          refine (zone_r HZ.out.1 HZ.out.2 (by omega) HSC.out (Nat.le_trans HSL.out (by decide))).mono ?_
          rintro e wE ⟨rfl, p1, p2, p3⟩
          rw [HRD.out] at p1 p2
          simp only at p1 p2
          have HE : Aside0 (Rw wb st' wE ∧ Cs wr.heap.size 65 x wE ∧ Cs hb HT (hcs.set j (.slice A i c)) wE ∧ wE.ownsRow w.heap.size 65 2 (.slice A i c) rows.length rows.flatten ∧ Fr (fun i => i = wb ∨ i = hb) w wE) := ⟨by
            have q1 : ∀ b, b < wr.heap.size → b ≠ wb → wE.heap[b]? = wr.heap[b]? := fun b hb' hbw => (p3.block b (by simp; omega) (by rintro (q | q) <;> omega)).trans ((alloc_below wr _).block b hb')
            refine ⟨p1, p2, HI.out.cs.keep (q1 hb hlh hne), own_same HI.out.row fun g hg => q1 g (HI.out.row.lt g hg).2 (fun q => own_ne HI.out.row HI.out.rw (by decide) (by rw [hg, q])), (HI.out.fr.trans (Fr.of_below (alloc_below wr _)) fun i hi => .inl hi).trans p3 fun i hi => ?_⟩
            rcases hi with rfl | rfl
            · exact .inl (.inl rfl)
            · exact .inr HI.out.fr.size⟩
          have hxl : x.length = 2 := fits_len HFX.out
          have HX1 : Aside0 (∀ v ∈ x, v.oneCell' = true) := ⟨fits_one HFX.out⟩
          clear p1 p2 p3 HZ
          have c0 : wE.cell? ⟨hb, j, none⟩ = some (.slice A i c) := by rw [HE.out.2.2.1.cell, List.getElem?_set_self hjl]
          have f0 : wE.frozen? ⟨hb, j, none⟩ = false := HE.out.2.2.1.frozen j
          have hXB : Aside0 (∀ g, (Value.slice A i c).ownBlock = some g → g < wr.heap.size) := ⟨fun g hg => (HI.out.row.lt g hg).2⟩
          have hnh : (Value.slice A i c).ownBlock ≠ some hb := own_ne HE.out.2.2.2.1 HE.out.2.2.1 (Ne.symm HNE.out.2)
          obtain ⟨XB, hxb⟩ : ∃ XB, XB = wr.heap.size := ⟨_, rfl⟩
          rw [← hxb]
          rw [← hxb] at HE hXB
          have hnx : (Value.slice A i c).ownBlock ≠ some XB := fun e => by have := hXB.out XB e; omega
          have r0 : wE.rangeAt XB 0 x := fun q v hv => by rw [Nat.zero_add, HE.out.2.1.cell]; exact hv
          have hxlt := HE.out.2.1.lt
          have hhlt := HE.out.2.2.1.lt
          have hwlt := Cs.lt HE.out.1
          have hu := Tryz.underlying65
          have hi' : (Tryz.prog.info? 65).map (·.size) = some x.length := by rw [size_zone, hxl]
          have HXL := Aside0.mk hxl
          have HBS : Aside0 (w.heap.size ≤ wE.heap.size) := ⟨HE.out.2.2.2.2.size⟩
          have HXH : Aside0 (hb < XB) := ⟨by rw [hxb]; exact hlh⟩
          clear hxb hxl HI
          go_upto_region 15 with (fail)
          obtain ⟨WA, hWA⟩ : ∃ WA, WA = wE.drew.alloc (.cells x.toArray 65) := ⟨_, rfl⟩
          have HWB : Aside0 (Below wE.heap.size wE WA) := ⟨by rw [hWA]; have b := alloc_below wE (.cells x.toArray 65); exact ⟨b.os, b.tape, b.output, b.size, b.block⟩⟩
          have HRO : Aside0 (WA.ownsRow w.heap.size 65 2 (.slice A i c) i rows.flatten) := ⟨by have := HE.out.2.2.2.1.drew.alloc (.cells x.toArray 65); rw [HRL.out] at this; rw [hWA]; exact this⟩
          have HSZ : Aside0 (WA.heap.size = wE.heap.size + 1) := ⟨by rw [hWA]; simp⟩
          have HBA : Aside0 (w.heap.size ≤ WA.heap.size) := ⟨by have := HSZ.out; have := HBS.out; omega⟩
          have HRA : Aside0 (WA.rangeAt XB 0 x) := ⟨fun q v hv => by rw [World.cell?_of_block (HWB.out.block XB hxlt)]; exact r0 q v hv⟩
          have HFA : Aside0 (WA.frozen? ⟨hb, j, none⟩ = false) := ⟨by rw [World.frozen?_of_block (HWB.out.block hb hhlt)]; exact f0⟩
          have HCA : Aside0 (WA.cell? ⟨hb, j, none⟩ = some (.slice A i c)) := ⟨by rw [World.cell?_of_block (HWB.out.block hb hhlt)]; exact c0⟩
          have hxh : XB ≠ hb := fun e => by have := HXH.out; omega
          subst hWA
          refine wp_region_held_drew (S := (fun w' => w'.rangeAt XB 0 x)) (by kernel_rfl) ?_ (fun hHeld => ?_)
          · exact r0
          refine' wpAnyH_take (i := 0) (v := _) rfl (by kernel_rfl) (by kernel_rfl) (by kernel_rfl) (fun _ _ _ h => h) ?hy1 (by assumption) ?rs1
          case hy1 => exact .inl ⟨by rfl, by intro w' hSw; go_simp; (try with_reducible rfl)⟩
          (try simp only [Act.put, List.setIfInBounds_toArray, List.set_cons_zero, List.set_cons_succ, List.getElem_toArray, List.getElem_cons_zero, List.getElem_cons_succ])
          refine' wpAnyH_take (i := 1) (v := _) rfl (by kernel_rfl) (by kernel_rfl) (by kernel_rfl) (fun _ _ _ h => h) ?hy2 (by assumption) ?rs2
          case hy2 => exact .inl ⟨by rfl, by intro w' hSw; go_simp; (try with_reducible rfl)⟩
          (try simp only [Act.put, List.setIfInBounds_toArray, List.set_cons_zero, List.set_cons_succ, List.getElem_toArray, List.getElem_cons_zero, List.getElem_cons_succ])
          refine' wpAnyH_take (i := 2) (v := _) rfl (by kernel_rfl) (by kernel_rfl) (by kernel_rfl) (fun _ _ _ h => h) ?hy3 (by assumption) ?rs3
          case hy3 => exact .inl ⟨by rfl, by intro w' hSw; go_simp; (try with_reducible rfl)⟩
          (try simp only [Act.put, List.setIfInBounds_toArray, List.set_cons_zero, List.set_cons_succ, List.getElem_toArray, List.getElem_cons_zero, List.getElem_cons_succ])
          refine' wpAnyH_take (i := 4) (v := _) rfl (by kernel_rfl) (by kernel_rfl) (by kernel_rfl) (fun _ _ _ h => h) ?hy4 (by assumption) ?rs4
          case hy4 =>
            refine yieldsIf_load_mid ?ya 65 (.tmp 10) ?yb XB 0 ?yc x _ ?yd hu rfl hi'
            case ya => rfl
            case yb => rfl
            case yc => rfl
            case yd => exact fun w' hS => hS
          (try simp only [Act.put, List.setIfInBounds_toArray, List.set_cons_zero, List.set_cons_succ, List.getElem_toArray, List.getElem_cons_zero, List.getElem_cons_succ])
          refine wpAnyH_ready (rs := [3, 5]) (by kernel_rfl) (by simp) ?_
          refine AllReadyH.cons rfl (fun K hK => ?_) (AllReadyH.cons rfl (fun K hK => ?_) AllReadyH.nil)
          · go_simp
            refine hK.out _ _ ?_ (fun hHeld => ?_)
            · exact r0
            clear hK K
            (try simp only [Act.put, List.setIfInBounds_toArray, List.set_cons_zero, List.set_cons_succ, List.getElem_toArray, List.getElem_cons_zero, List.getElem_cons_succ])
            refine wpAnyH_ready (rs := [5]) (by kernel_rfl) (by simp) ?_
            refine AllReadyH.cons rfl (fun K hK => ?_) AllReadyH.nil
            refine step_build_one rfl 24 65 (.tmp 70) rfl x rfl i0 _ 2 Tryz.underlying24 hI0 hz0 hz1 HXL.out (by decide) (by decide) ?_
            refine hK.out _ _ ?_ (fun hHeld => ?_)
            · exact HRA.out
            clear hK K
            (try simp only [Act.put, List.setIfInBounds_toArray, List.set_cons_zero, List.set_cons_succ, List.getElem_toArray, List.getElem_cons_zero, List.getElem_cons_succ])
            refine wpAnyH_ready (rs := [6]) (by kernel_rfl) (by simp) ?_
            refine AllReadyH.cons rfl (fun K hK => ?_) AllReadyH.nil
            refine step_append_lies _ rfl (.tmp 69) (.tmp 71) 24 rfl w.heap.size 65 i0 _ 2 32 Tryz.underlying24 hI0 hz0 hz1 hz2 rfl (by decide) (.slice A i c) i rows.flatten rfl HRO.out ⟨wE.heap.size, 0, none⟩ 1 1 x rfl (by rw [HXL.out]) (World.news_of_block (cs := x.toArray) (t := 65) (fr := (0, 0)) (heap_alloc_new wE _)) HX1.out (by decide) (by unfold maxLen; omega) (by omega) HBA.out (wE.heap.size + 1) HSZ.out ?_
            intro gg cap w1 hown1 hgrow hat hlt1
            have HOW := Aside0.mk (And.intro hown1 (And.intro hgrow (And.intro hat hlt1)))
            have g1 : w1.rangeAt XB 0 x := fun q v hv => by
              rw [HOW.out.2.1.cell_far _ (Nat.lt_of_lt_of_le hxlt HWB.out.size) (Ne.symm hnx)]
              exact HRA.out q v hv
            have g2 : w1.frozen? ⟨hb, j, none⟩ = false := by
              rw [HOW.out.2.1.frozen_far _ (Nat.lt_of_lt_of_le hhlt HWB.out.size) (Ne.symm hnh)]
              exact HFA.out
            have g3 : w1.cell? ⟨hb, j, none⟩ = some (.slice A i c) := by
              rw [HOW.out.2.1.cell_far _ (Nat.lt_of_lt_of_le hhlt HWB.out.size) (Ne.symm hnh)]
              exact HCA.out
            clear hown1 hgrow hat
            refine hK.out _ _ ?_ (fun hHeld => ?_)
            · exact g1
            clear hK K
            (try simp only [Act.put, List.setIfInBounds_toArray, List.set_cons_zero, List.set_cons_succ, List.getElem_toArray, List.getElem_cons_zero, List.getElem_cons_succ])
            refine' wpAnyH_take (i := 7) (v := _) rfl (by kernel_rfl) (by kernel_rfl) (by kernel_rfl) (fun _ _ _ h => h) ?hy5 (by assumption) ?rs5
            case hy5 => exact .inl ⟨by rfl, by intro w' hSw; go_simp; (try with_reducible rfl)⟩
            (try simp only [Act.put, List.setIfInBounds_toArray, List.set_cons_zero, List.set_cons_succ, List.getElem_toArray, List.getElem_cons_zero, List.getElem_cons_succ])
            refine wpAnyH_ready (rs := [8]) (by kernel_rfl) (by simp) ?_
            refine AllReadyH.cons rfl (fun K hK => ?_) AllReadyH.nil
            go_simp
            refine hK.out _ _ ?_ (fun hHeld => ?_)
            · exact fun q v hv => by rw [World.cell?_of_block (Below.heap_setCell w1 ⟨hb, j, none⟩ _ XB hxh)]; exact g1 q v hv
            clear hK K
            (try simp only [Act.put, List.setIfInBounds_toArray, List.set_cons_zero, List.set_cons_succ, List.getElem_toArray, List.getElem_cons_zero, List.getElem_cons_succ])
            refine wpAnyH_done (by kernel_rfl) ?_ _
            go_wp2
            go_roundw
            case rel =>
              have hgg : (Value.slice (some ⟨gg, 0, none⟩) (i + 1) cap).ownBlock ≠ some hb := by
                intro e
                have e' : gg = hb := by simpa [Value.ownBlock] using e
                rcases HOW.out.2.2.1 with q | q
                · exact hnh (by rw [q, e'])
                · omega
              refine ⟨i + 1, st', rows ++ [x], .slice (some ⟨gg, 0, none⟩) (i + 1) cap, by omega, by simp [HRL.out], by go_num, HDL, ⟨.inr htb⟩, HNX, ⟨?_⟩⟩
              have hr' := HRL.out
              subst hr'
              exact (LRd.push (st' := st') rfl HNE.out.2 (by decide) (Rw.below HE.out.1 HWB.out) (HE.out.2.2.1.keep (HWB.out.block hb hhlt)) HRO.out (HE.out.2.2.2.2.trans (Fr.of_below HWB.out) fun i hi => .inl hi) HOW.out.1 HOW.out.2.1 HNE.out.1 hgg)
            case measure => simp [intOf]; omega
          · refine step_build_one rfl 24 65 (.tmp 70) rfl x rfl i0 _ 2 Tryz.underlying24 hI0 hz0 hz1 HXL.out (by decide) (by decide) ?_
            refine hK.out _ _ ?_ (fun hHeld => ?_)
            · exact HRA.out
            clear hK K
            (try simp only [Act.put, List.setIfInBounds_toArray, List.set_cons_zero, List.set_cons_succ, List.getElem_toArray, List.getElem_cons_zero, List.getElem_cons_succ])
            have k0 := HCA.out
            refine wpAnyH_ready (rs := [3]) (by kernel_rfl) (by simp) ?_
            refine AllReadyH.cons rfl (fun K hK => ?_) AllReadyH.nil
            go_simp
            refine hK.out _ _ ?_ (fun hHeld => ?_)
            · exact HRA.out
            clear hK K
            (try simp only [Act.put, List.setIfInBounds_toArray, List.set_cons_zero, List.set_cons_succ, List.getElem_toArray, List.getElem_cons_zero, List.getElem_cons_succ])
            refine wpAnyH_ready (rs := [6]) (by kernel_rfl) (by simp) ?_
            refine AllReadyH.cons rfl (fun K hK => ?_) AllReadyH.nil
            refine step_append_lies _ rfl (.tmp 69) (.tmp 71) 24 rfl w.heap.size 65 i0 _ 2 32 Tryz.underlying24 hI0 hz0 hz1 hz2 rfl (by decide) (.slice A i c) i rows.flatten rfl HRO.out ⟨wE.heap.size, 0, none⟩ 1 1 x rfl (by rw [HXL.out]) (World.news_of_block (cs := x.toArray) (t := 65) (fr := (0, 0)) (heap_alloc_new wE _)) HX1.out (by decide) (by unfold maxLen; omega) (by omega) HBA.out (wE.heap.size + 1) HSZ.out ?_
            intro gg cap w1 hown1 hgrow hat hlt1
            have HOW := Aside0.mk (And.intro hown1 (And.intro hgrow (And.intro hat hlt1)))
            have g1 : w1.rangeAt XB 0 x := fun q v hv => by
              rw [HOW.out.2.1.cell_far _ (Nat.lt_of_lt_of_le hxlt HWB.out.size) (Ne.symm hnx)]
              exact HRA.out q v hv
            have g2 : w1.frozen? ⟨hb, j, none⟩ = false := by
              rw [HOW.out.2.1.frozen_far _ (Nat.lt_of_lt_of_le hhlt HWB.out.size) (Ne.symm hnh)]
              exact HFA.out
            have g3 : w1.cell? ⟨hb, j, none⟩ = some (.slice A i c) := by
              rw [HOW.out.2.1.cell_far _ (Nat.lt_of_lt_of_le hhlt HWB.out.size) (Ne.symm hnh)]
              exact HCA.out
            clear hown1 hgrow hat
            refine hK.out _ _ ?_ (fun hHeld => ?_)
            · exact g1
            clear hK K
            (try simp only [Act.put, List.setIfInBounds_toArray, List.set_cons_zero, List.set_cons_succ, List.getElem_toArray, List.getElem_cons_zero, List.getElem_cons_succ])
            refine' wpAnyH_take (i := 7) (v := _) rfl (by kernel_rfl) (by kernel_rfl) (by kernel_rfl) (fun _ _ _ h => h) ?hy6 (by assumption) ?rs6
            case hy6 => exact .inl ⟨by rfl, by intro w' hSw; go_simp; (try with_reducible rfl)⟩
            (try simp only [Act.put, List.setIfInBounds_toArray, List.set_cons_zero, List.set_cons_succ, List.getElem_toArray, List.getElem_cons_zero, List.getElem_cons_succ])
            refine wpAnyH_ready (rs := [8]) (by kernel_rfl) (by simp) ?_
            refine AllReadyH.cons rfl (fun K hK => ?_) AllReadyH.nil
            go_simp
            refine hK.out _ _ ?_ (fun hHeld => ?_)
            · exact fun q v hv => by rw [World.cell?_of_block (Below.heap_setCell w1 ⟨hb, j, none⟩ _ XB hxh)]; exact g1 q v hv
            clear hK K
            (try simp only [Act.put, List.setIfInBounds_toArray, List.set_cons_zero, List.set_cons_succ, List.getElem_toArray, List.getElem_cons_zero, List.getElem_cons_succ])
            refine wpAnyH_done (by kernel_rfl) ?_ _
            go_wp2
            go_roundw
            case rel =>
              have hgg : (Value.slice (some ⟨gg, 0, none⟩) (i + 1) cap).ownBlock ≠ some hb := by
                intro e
                have e' : gg = hb := by simpa [Value.ownBlock] using e
                rcases HOW.out.2.2.1 with q | q
                · exact hnh (by rw [q, e'])
                · omega
              refine ⟨i + 1, st', rows ++ [x], .slice (some ⟨gg, 0, none⟩) (i + 1) cap, by omega, by simp [HRL.out], by go_num, HDL, ⟨.inr htb⟩, HNX, ⟨?_⟩⟩
              have hr' := HRL.out
              subst hr'
              exact (LRd.push (st' := st') rfl HNE.out.2 (by decide) (Rw.below HE.out.1 HWB.out) (HE.out.2.2.1.keep (HWB.out.block hb hhlt)) HRO.out (HE.out.2.2.2.2.trans (Fr.of_below HWB.out) fun i hi => .inl hi) HOW.out.1 HOW.out.2.1 HNE.out.1 hgg)
            case measure => simp [intOf]; omega
        · obtain rfl : i = tn := by omega
          have HFN : Aside0 (rdList ks_zone s = (st, rows)) := ⟨by
            rw [HG.out, HRE.out, Nat.sub_self]
            simp [rdRows]⟩
          go_wp2
          go_end0
          refine ⟨rfl, .slice A i c, ?_⟩
          rw [HFN.out]
          exact HI.out
/-! ### list: rule -/
def ks_rule : List K := [.t, .t, .n]
theorem sc_rule_all : sc_rule = scOf 0 ks_rule := by rfl
theorem size_rule : (Tryz.prog.info? 76).map (·.size) = some 3 := by kernel_rfl
theorem info_rule : (Tryz.prog.info? 76).map (fun i => (i.zero, i.size, i.bytes)) = some (some (.agg #[.string ⟨#[]⟩, .string ⟨#[]⟩, .int .i64 0]), 3, 40) := by kernel_rfl
set_option maxHeartbeats 8000000 in
set_option maxRecDepth 100000 in
theorem list_rule_w {B wb bb hb j c : Nat} {A : Option Addr} {bs : List UInt8} {rows : List (List Value)} {w : World} (h : Wr B wb bb bs w) (hc : w.cell? ⟨hb, j, none⟩ = some (.slice A rows.length c)) (hst : Stay B bb w hb) (hr : RowsAt B bb w A 3 rows)
    (hf : ∀ x ∈ rows, Fits ks_rule x) (hn : rows.length ≤ c) (hn2 : rows.length ≤ 100000000) (hl : bs.length + (encRows rows).length ≤ 140737488355328) :
    Calls Tryz.prog 67 #[.pointer (some ⟨wb, 0, none⟩), .pointer (some ⟨hb, j, none⟩), .func (.func 68) #[] #[]] w (Writ B wb bb (bs ++ encRows rows) w) := by
  obtain ⟨n, hnn⟩ : ∃ n, n = rows.length := ⟨_, rfl⟩
  rw [← hnn] at hc hn hn2
  have HN := Aside0.mk hnn
  have H := Aside0.mk h
  have HST := Aside0.mk hst
  have HR := Aside0.mk hr
  have HF := Aside0.mk hf
  have HL : Aside0 (bs.length + (digits n).length + (rows.flatMap encs).length ≤ 140737488355328) := ⟨by unfold encRows at hl; rw [List.length_append, ← hnn] at hl; omega⟩
  have hwc := h.out
  have HC := Aside0.mk hc
  clear h hst hr hf hl hnn
  go_enter Tryz.func67, Tryz.ntmps67
  go_upto_region 1 with (fail)
  go_region_held3 (fun w' => w'.cell? ⟨wb, 0, none⟩ = some (.pointer (some ⟨bb, 0, none⟩)) ∧ w'.cell? ⟨hb, j, none⟩ = some (.slice A n c)) (first | (go_split_ands; assumption) | (refine ⟨?_, ?_⟩ <;> assumption) | go_keep) (first
    | (go_at_call 94; refine (put_any n (by omega) _ _ (by simp)).mono ?_; rintro e wB ⟨rfl, hk⟩; have hk' : Below w.heap.size w wB := ((alloc_below w _).trans (⟨hk.os, hk.tape, hk.output, hk.size, fun i hi => hk.block i (by simp; omega)⟩ : Below w.heap.size (w.alloc _) wB)); have HB : Aside0 (Wr B wb bb bs wB ∧ Wk B bb w wB) := ⟨H.out.below hk', Wk.of_below H.out.le hk'⟩; clear hk hk'; have g0 := HB.out.1.out; have g1 : wB.cell? ⟨hb, j, none⟩ = some (.slice A n c) := by rw [Stay.cell HST.out HB.out.2]; exact HC.out)
    | (go_at_call 93; refine (HB.out.1.write (digits n) (by have := HL.out; omega)).mono ?_; rintro e wC ⟨⟨z', rfl⟩, hk1, hk2⟩; have HCC : Aside0 (Wr B wb bb (bs ++ digits n) wC ∧ Wk B bb w wC) := ⟨hk1, HB.out.2.trans hk2⟩; clear hk1 hk2; have k0 := HCC.out.1.out; have k1 : wC.cell? ⟨hb, j, none⟩ = some (.slice A n c) := by rw [Stay.cell HST.out HCC.out.2]; exact HC.out)
    | fail)
  go_wp2_with (fail)
  go_loopw [31] (fun v31 wr => ∃ i : Nat, i ≤ n ∧ v31 = .int .i64 i ∧ Aside0 (Wr B wb bb (bs ++ digits n ++ (rows.take i).flatMap encs) wr ∧ Wk B bb w wr)) (fun v31 _ => n - (intOf v31).toNat)
  case atStart => exact ⟨0, by omega, rfl, ⟨by simpa using HCC.out.1, HCC.out.2⟩⟩
  case round =>
    obtain ⟨i, hi, rfl, HI⟩ := hrel
    clear g0 g1 k0 k1 HB HCC
    by_cases hlt : i < n
    · have hil : i < rows.length := by have := HN.out; omega
      obtain ⟨x, hx⟩ : ∃ x, rows[i]? = some x := ⟨_, List.getElem?_eq_getElem hil⟩
      have hxf := HF.out x (List.mem_of_getElem? hx)
      obtain ⟨ad, rfl, hsa, hca⟩ := (HR.out.next HI.out.2).at_ (by omega)
      have hcx := hca i x hx
      have hxl : x.length = 3 := fits_len hxf
      have HE : Aside0 ((rows.take (i + 1)).flatMap encs = (rows.take i).flatMap encs ++ encs x) := ⟨rows_take rows i x hx⟩
      have HLX : Aside0 ((bs ++ digits n ++ (rows.take i).flatMap encs).length + (encs x).length ≤ 140737488355328) := ⟨by
        have h1 := HL.out
        have h2 := rows_le rows (i + 1)
        rw [HE.out, List.length_append] at h2
        simp only [List.length_append]; omega⟩
      have HXF := Aside0.mk hxf
      have HXL := Aside0.mk hxl
      have HCX : Aside0 (∀ m v, x[m]? = some v → wr.cell? ((ad.add (i * 3)).add m) = some v) := ⟨fun m v hv => by rw [add_of_add]; exact hcx m v hv⟩
      have HX1 : Aside0 (x.toArray.all (·.oneCell') = true) := ⟨all_oneCell_toArray (fits_one hxf)⟩
      clear hx hxf hsa hca hcx hxl
      go_wp2_with (first
        | ((with_reducible refine wpList_load_at (op := ⟨some 34, _, _, _, _, _⟩) ?a1 76 (.tmp 33) ?a2 (ad.add (i * 3)) ?a3 x _ HCX.out Tryz.underlying76 ?a4 ?a5 ?a6); (case a1 => rfl); (case a2 => rfl); (case a3 => rfl); (case a4 => rfl); (case a5 => (rw [size_rule, HXL.out])))
        | ((with_reducible refine wpList_store_new (op := ⟨none, Op.store _ (.tmp 7) (.tmp 34), _, _, _, _⟩) ?b1 76 (.tmp 7) (.tmp 34) ?b2 #[.string ⟨#[]⟩, .string ⟨#[]⟩, .int .i64 0] x.toArray ?b3 ?b4 ?b5 ?b6 HX1.out ?b7); (case b1 => rfl); (case b2 => rfl); (case b3 => rfl); (case b4 => rfl); (case b5 => (rw [size_rule]; simp [HXL.out])); (case b6 => simp [HXL.out])))
      have HWX : Aside0 (Wr B wb bb (bs ++ digits n ++ (rows.take i).flatMap encs) (wr.alloc (.cells x.toArray 76)) ∧ Cs wr.heap.size 76 x (wr.alloc (.cells x.toArray 76))) := ⟨HI.out.1.below (alloc_below _ _), cs_alloc _ _ _ _ rfl⟩
      have HEX : Aside0 (encAt sc_rule x = encs x ∧ OkAt sc_rule x) := ⟨by rw [sc_rule_all]; exact ⟨enc_all _ _ (by rw [HXL.out]; rfl), ok_all _ _ HXF.out⟩⟩
      refine (rule_w HWX.out.1 HWX.out.2 (by decide) (by decide) HEX.out.2 (by rw [HEX.out.1]; exact HLX.out)).mono ?_
      rintro e wE ⟨rfl, p1, p2⟩
      have HEE : Aside0 (Wr B wb bb (bs ++ digits n ++ (rows.take (i + 1)).flatMap encs) wE ∧ Wk B bb w wE) := ⟨by rw [HE.out, ← List.append_assoc, ← HEX.out.1]; exact p1, HI.out.2.trans ((Wk.of_below HI.out.1.le (alloc_below _ _)).trans p2)⟩
      clear p1 p2
      go_wp2
      go_roundw
      case rel => exact ⟨i + 1, by omega, by go_num, HEE⟩
      case measure => simp [intOf]; omega
    · obtain rfl : i = n := by omega
      have HFL : Aside0 (rows.take i = rows) := ⟨List.take_of_length_le (by have := HN.out; omega)⟩
      go_wp2
      go_end0
      have := HI.out
      rw [HFL.out] at this
      refine ⟨rfl, ?_, this.2⟩
      unfold encRows
      rw [← HN.out, ← List.append_assoc]
      exact this.1
theorem zeros_rule : (#[.string ⟨#[]⟩, .string ⟨#[]⟩, .int .i64 0] : Array Value) = (ks_rule.map zeroV).toArray := rfl
set_option maxHeartbeats 8000000 in
set_option maxRecDepth 100000 in
theorem list_rule_r {wb hb j : Nat} {s : Rd} {HT : TypeId} {hcs : List Value} {w : World} (h : Rw wb s w) (hh : Cs hb HT hcs w) (hj : hcs[j]? = some (.slice none 0 0)) (hne : hb ≠ wb) (hHT : HT ≠ 76) (hl : s.D.length ≤ 100000000) :
    Calls Tryz.prog 67 #[.pointer (some ⟨wb, 0, none⟩), .pointer (some ⟨hb, j, none⟩), .func (.func 68) #[] #[]] w (ListRd wb hb j HT 76 3 hcs (rdList ks_rule s) w) := by
  obtain ⟨i0, hI0, hz0, hz1, hz2⟩ := infoParts info_rule
  obtain ⟨tn, htn⟩ : ∃ tn, tn = (takeN s).1 := ⟨_, rfl⟩
  obtain ⟨s1, hs1⟩ : ∃ s1, s1 = (takeN s).2 := ⟨_, rfl⟩
  obtain ⟨s2, hs2⟩ : ∃ s2, s2 = (counted s).2 := ⟨_, rfl⟩
  have ctk := take_r h (by omega)
  rw [← htn, ← hs1] at ctk
  have htl : tn < 9223372036854775808 := by rw [htn]; exact take_lt s
  have hsl : s1.D.length ≤ 100000000 := by rw [hs1]; exact Nat.le_trans (take_len s) hl
  have hjl : j < hcs.length := (List.getElem?_eq_some_iff.1 hj).1
  have HG : Aside0 (rdList ks_rule s = rdRows ks_rule tn s2) := ⟨by unfold rdList; rw [hs2, htn]; rfl⟩
  have HE2 : Aside0 (s2 = if s1.D.length < tn then s1.fail else s1) := ⟨by rw [hs2, hs1, htn]; rfl⟩
  have hwc := h.cells.1
  have HH := Aside0.mk (And.intro hh hj)
  have HNE := Aside0.mk (And.intro hne hHT)
  have HHT := Aside0.mk (show hb < w.heap.size ∧ wb < w.heap.size from ⟨hh.lt, Cs.lt h⟩)
  clear h hh hj hHT htn hs1 hs2
  go_enter Tryz.func67, Tryz.ntmps67
  go_wp2_with (fail)
  refine ctk.mono ?_
  rintro e wA ⟨rfl, p1, p2⟩
  have HA : Aside0 (Rw wb s1 wA ∧ Cs hb HT hcs wA ∧ Fr (fun i => i = wb ∨ i = hb) w wA) := ⟨p1, HH.out.1.keep (p2.block hb HH.out.1.lt hne), ⟨p2.os, p2.tape, p2.output, p2.size, fun i hi hn => p2.block i hi fun q => hn (.inl q)⟩⟩
  clear p1 p2 ctk
  obtain ⟨a0, a1, a2, af⟩ := HA.out.1.cells
  obtain ⟨D1, hD1⟩ : ∃ D1 : ByteArray, D1 = ⟨s1.D.toArray⟩ := ⟨_, rfl⟩
  have hD1s : D1.size = s1.D.length := by rw [hD1, size_mk]
  rw [← hD1] at a1
  have HDS := Aside0.mk hD1s
  clear hD1 hD1s
  have hbd : s2.bad = true ∨ tn ≤ 100000000 := by
    rw [HE2.out]
    by_cases hgt : s1.D.length < tn
    · rw [if_pos hgt]; exact .inl rfl
    · right; omega
  have HBD := Aside0.mk hbd
  clear hbd
  go_upto_if 47 with (fail)
  go_cut [] (fun wx => LRd wb hb j HT 76 3 hcs w.heap.size (s2, []) (.slice none 0 0) w wx)
  case first =>
    have hset : hcs.set j (.slice none 0 0) = hcs := by
      apply List.ext_getElem?
      intro q
      rw [List.getElem?_set]
      split
      · rename_i hq
        subst hq
        exact HH.out.2.symm
      · rfl
    have HSET := Aside0.mk hset
    clear hset
    by_cases hgt : s1.D.length < tn
    · have hgt' : (D1.size : Int) < (tn : Int) := by have := HDS.out; omega
      have HGT := Aside0.mk hgt
      clear hgt
      go_wp2
      go_meet
      refine ⟨?_, ?_, World.ownsRow_nil _ _ _ _, HA.out.2.2.set _ _ (.inl (.inl rfl))⟩
      · show Rw wb s2 _
        rw [HE2.out, if_pos HGT.out]
        exact HA.out.1.isBad
      · rw [HSET.out]
        exact Cs.other HA.out.2.1 _ _ (Ne.symm hne)
    · have hgt' : ¬(D1.size : Int) < (tn : Int) := by have := HDS.out; omega
      have HGT := Aside0.mk hgt
      clear hgt
      go_wp2
      go_meet
      refine ⟨?_, ?_, World.ownsRow_nil _ _ _ _, HA.out.2.2⟩
      · show Rw wb s2 _
        rw [HE2.out, if_neg HGT.out]
        exact HA.out.1
      · rw [HSET.out]
        exact HA.out.2.1
  case rest =>
    have HX := Aside0.mk hcut
    clear hcut a0 a1 a2 af HA hwc
    go_wp2_with (fail)
    go_loopw [9] (fun v9 wr => ∃ (i : Nat) (st : Rd) (rows : List (List Value)) (v : Value), i ≤ tn ∧ rows.length = i ∧ v9 = .int .i64 i ∧ Aside0 (st.D.length ≤ 100000000) ∧ Aside0 (st.bad = true ∨ tn ≤ 100000000) ∧ Aside0 (rdRows ks_rule tn s2 = ((rdRows ks_rule (tn - i) st).1, rows ++ (rdRows ks_rule (tn - i) st).2)) ∧ Aside0 (LRd wb hb j HT 76 3 hcs w.heap.size (st, rows) v w wr)) (fun v9 _ => tn - (intOf v9).toNat)
    case atStart => exact ⟨0, s2, [], _, by omega, rfl, rfl, ⟨by rw [HE2.out]; split <;> exact hsl⟩, HBD, ⟨by simp⟩, HX⟩
    case round =>
      obtain ⟨i, st, rows, v, hi, hrl, rfl, HSL, HBT, HRE, HI⟩ := hrel
      clear HX HBD
      obtain ⟨A, c, rfl⟩ : ∃ A c, v = .slice A i c := by rw [← hrl]; exact own_shape HI.out.row
      have HRL := Aside0.mk hrl
      clear hrl
      obtain ⟨b0, b1, b2, bf⟩ := HI.out.rw.cells
      obtain ⟨qb, hbad⟩ : ∃ q, q = st.bad := ⟨_, rfl⟩
      rw [show (st, rows).1.bad = qb from hbad.symm] at b2
      have HBB := Aside0.mk hbad
      clear hbad
      cases qb with
      | true =>
        have HFN : Aside0 (rdList ks_rule s = (st, rows)) := ⟨by
          rw [HG.out, HRE.out]
          rw [rows_done _ _ st HBB.out.symm]
          simp⟩
        by_cases hlt : i < tn
        all_goals
          go_wp2
          go_end0
          refine ⟨rfl, .slice A i c, ?_⟩
          rw [HFN.out]
          exact HI.out
      | false =>
        by_cases hlt : i < tn
        · have htb : tn ≤ 100000000 := HBT.out.resolve_left (by rw [← HBB.out]; simp)
          have HNX : Aside0 (rdRows ks_rule tn s2 = ((rdRows ks_rule (tn - (i + 1)) (rds ks_rule st (ks_rule.map zeroV)).1).1, (rows ++ [(rds ks_rule st (ks_rule.map zeroV)).2]) ++ (rdRows ks_rule (tn - (i + 1)) (rds ks_rule st (ks_rule.map zeroV)).1).2)) := ⟨by
            rw [HRE.out, show tn - i = (tn - (i + 1)) + 1 from by omega]
            rw [rows_more _ _ st HBB.out.symm]
            simp⟩
          have HFX : Aside0 (Fits ks_rule (rds ks_rule st (ks_rule.map zeroV)).2) := ⟨fits_rds _ _ _ (fits_zero _)⟩
          have HDL : Aside0 ((rds ks_rule st (ks_rule.map zeroV)).1.D.length ≤ 100000000) := ⟨by
            rw [← rd_all _ _ _ (by simp)]
            exact Nat.le_trans (rdAt_len _ _).1 HSL.out⟩
          have HRD : Aside0 (rdAt sc_rule (st, ks_rule.map zeroV) = rds ks_rule st (ks_rule.map zeroV)) := ⟨by rw [sc_rule_all]; exact rd_all _ _ _ (by simp)⟩
          obtain ⟨p, hp⟩ : ∃ p, p = rds ks_rule st (ks_rule.map zeroV) := ⟨_, rfl⟩
          rw [← hp] at HNX HFX HRD HDL
          clear hp HRE
          obtain ⟨st', x⟩ := p
          simp only at HNX HFX HDL
          have hlw := Cs.lt HI.out.rw
          have hlh := HI.out.cs.lt
          go_wp2_with (fail)
          have HZ : Aside0 (Rw wb st (wr.alloc (.cells #[.string ⟨#[]⟩, .string ⟨#[]⟩, .int .i64 0] 76)) ∧ Cs wr.heap.size 76 (ks_rule.map zeroV) (wr.alloc (.cells #[.string ⟨#[]⟩, .string ⟨#[]⟩, .int .i64 0] 76))) := ⟨Rw.below HI.out.rw (alloc_below _ _), cs_alloc _ _ _ _ zeros_rule⟩
          have HSC : Aside0 (∀ y ∈ sc_rule, y.2 < (ks_rule.map zeroV).length) := ⟨by decide⟩
          refine (rule_r HZ.out.1 HZ.out.2 (by omega) HSC.out (Nat.le_trans HSL.out (by decide))).mono ?_
          rintro e wE ⟨rfl, p1, p2, p3⟩
          rw [HRD.out] at p1 p2
          simp only at p1 p2
          have HE : Aside0 (Rw wb st' wE ∧ Cs wr.heap.size 76 x wE ∧ Cs hb HT (hcs.set j (.slice A i c)) wE ∧ wE.ownsRow w.heap.size 76 3 (.slice A i c) rows.length rows.flatten ∧ Fr (fun i => i = wb ∨ i = hb) w wE) := ⟨by
            have q1 : ∀ b, b < wr.heap.size → b ≠ wb → wE.heap[b]? = wr.heap[b]? := fun b hb' hbw => (p3.block b (by simp; omega) (by rintro (q | q) <;> omega)).trans ((alloc_below wr _).block b hb')
            refine ⟨p1, p2, HI.out.cs.keep (q1 hb hlh hne), own_same HI.out.row fun g hg => q1 g (HI.out.row.lt g hg).2 (fun q => own_ne HI.out.row HI.out.rw (by decide) (by rw [hg, q])), (HI.out.fr.trans (Fr.of_below (alloc_below wr _)) fun i hi => .inl hi).trans p3 fun i hi => ?_⟩
            rcases hi with rfl | rfl
            · exact .inl (.inl rfl)
            · exact .inr HI.out.fr.size⟩
          have hxl : x.length = 3 := fits_len HFX.out
          have HX1 : Aside0 (∀ v ∈ x, v.oneCell' = true) := ⟨fits_one HFX.out⟩
          clear p1 p2 p3 HZ
          have c0 : wE.cell? ⟨hb, j, none⟩ = some (.slice A i c) := by rw [HE.out.2.2.1.cell, List.getElem?_set_self hjl]
          have f0 : wE.frozen? ⟨hb, j, none⟩ = false := HE.out.2.2.1.frozen j
          have hXB : Aside0 (∀ g, (Value.slice A i c).ownBlock = some g → g < wr.heap.size) := ⟨fun g hg => (HI.out.row.lt g hg).2⟩
          have hnh : (Value.slice A i c).ownBlock ≠ some hb := own_ne HE.out.2.2.2.1 HE.out.2.2.1 (Ne.symm HNE.out.2)
          obtain ⟨XB, hxb⟩ : ∃ XB, XB = wr.heap.size := ⟨_, rfl⟩
          rw [← hxb]
          rw [← hxb] at HE hXB
          have hnx : (Value.slice A i c).ownBlock ≠ some XB := fun e => by have := hXB.out XB e; omega
          have r0 : wE.rangeAt XB 0 x := fun q v hv => by rw [Nat.zero_add, HE.out.2.1.cell]; exact hv
          have hxlt := HE.out.2.1.lt
          have hhlt := HE.out.2.2.1.lt
          have hwlt := Cs.lt HE.out.1
          have hu := Tryz.underlying76
          have hi' : (Tryz.prog.info? 76).map (·.size) = some x.length := by rw [size_rule, hxl]
          have HXL := Aside0.mk hxl
          have HBS : Aside0 (w.heap.size ≤ wE.heap.size) := ⟨HE.out.2.2.2.2.size⟩
          have HXH : Aside0 (hb < XB) := ⟨by rw [hxb]; exact hlh⟩
          clear hxb hxl HI
          go_upto_region 15 with (fail)
          obtain ⟨WA, hWA⟩ : ∃ WA, WA = wE.drew.alloc (.cells x.toArray 76) := ⟨_, rfl⟩
          have HWB : Aside0 (Below wE.heap.size wE WA) := ⟨by rw [hWA]; have b := alloc_below wE (.cells x.toArray 76); exact ⟨b.os, b.tape, b.output, b.size, b.block⟩⟩
          have HRO : Aside0 (WA.ownsRow w.heap.size 76 3 (.slice A i c) i rows.flatten) := ⟨by have := HE.out.2.2.2.1.drew.alloc (.cells x.toArray 76); rw [HRL.out] at this; rw [hWA]; exact this⟩
          have HSZ : Aside0 (WA.heap.size = wE.heap.size + 1) := ⟨by rw [hWA]; simp⟩
          have HBA : Aside0 (w.heap.size ≤ WA.heap.size) := ⟨by have := HSZ.out; have := HBS.out; omega⟩
          have HRA : Aside0 (WA.rangeAt XB 0 x) := ⟨fun q v hv => by rw [World.cell?_of_block (HWB.out.block XB hxlt)]; exact r0 q v hv⟩
          have HFA : Aside0 (WA.frozen? ⟨hb, j, none⟩ = false) := ⟨by rw [World.frozen?_of_block (HWB.out.block hb hhlt)]; exact f0⟩
          have HCA : Aside0 (WA.cell? ⟨hb, j, none⟩ = some (.slice A i c)) := ⟨by rw [World.cell?_of_block (HWB.out.block hb hhlt)]; exact c0⟩
          have hxh : XB ≠ hb := fun e => by have := HXH.out; omega
          subst hWA
          refine wp_region_held_drew (S := (fun w' => w'.rangeAt XB 0 x)) (by kernel_rfl) ?_ (fun hHeld => ?_)
          · exact r0
          refine' wpAnyH_take (i := 0) (v := _) rfl (by kernel_rfl) (by kernel_rfl) (by kernel_rfl) (fun _ _ _ h => h) ?hy1 (by assumption) ?rs1
          case hy1 => exact .inl ⟨by rfl, by intro w' hSw; go_simp; (try with_reducible rfl)⟩
          (try simp only [Act.put, List.setIfInBounds_toArray, List.set_cons_zero, List.set_cons_succ, List.getElem_toArray, List.getElem_cons_zero, List.getElem_cons_succ])
          refine' wpAnyH_take (i := 1) (v := _) rfl (by kernel_rfl) (by kernel_rfl) (by kernel_rfl) (fun _ _ _ h => h) ?hy2 (by assumption) ?rs2
          case hy2 => exact .inl ⟨by rfl, by intro w' hSw; go_simp; (try with_reducible rfl)⟩
          (try simp only [Act.put, List.setIfInBounds_toArray, List.set_cons_zero, List.set_cons_succ, List.getElem_toArray, List.getElem_cons_zero, List.getElem_cons_succ])
          refine' wpAnyH_take (i := 2) (v := _) rfl (by kernel_rfl) (by kernel_rfl) (by kernel_rfl) (fun _ _ _ h => h) ?hy3 (by assumption) ?rs3
          case hy3 => exact .inl ⟨by rfl, by intro w' hSw; go_simp; (try with_reducible rfl)⟩
          (try simp only [Act.put, List.setIfInBounds_toArray, List.set_cons_zero, List.set_cons_succ, List.getElem_toArray, List.getElem_cons_zero, List.getElem_cons_succ])
          refine' wpAnyH_take (i := 4) (v := _) rfl (by kernel_rfl) (by kernel_rfl) (by kernel_rfl) (fun _ _ _ h => h) ?hy4 (by assumption) ?rs4
          case hy4 =>
            refine yieldsIf_load_mid ?ya 76 (.tmp 10) ?yb XB 0 ?yc x _ ?yd hu rfl hi'
            case ya => rfl
            case yb => rfl
            case yc => rfl
            case yd => exact fun w' hS => hS
          (try simp only [Act.put, List.setIfInBounds_toArray, List.set_cons_zero, List.set_cons_succ, List.getElem_toArray, List.getElem_cons_zero, List.getElem_cons_succ])
          refine wpAnyH_ready (rs := [3, 5]) (by kernel_rfl) (by simp) ?_
          refine AllReadyH.cons rfl (fun K hK => ?_) (AllReadyH.cons rfl (fun K hK => ?_) AllReadyH.nil)
          · go_simp
            refine hK.out _ _ ?_ (fun hHeld => ?_)
            · exact r0
            clear hK K
            (try simp only [Act.put, List.setIfInBounds_toArray, List.set_cons_zero, List.set_cons_succ, List.getElem_toArray, List.getElem_cons_zero, List.getElem_cons_succ])
            refine wpAnyH_ready (rs := [5]) (by kernel_rfl) (by simp) ?_
            refine AllReadyH.cons rfl (fun K hK => ?_) AllReadyH.nil
            refine step_build_one rfl 27 76 (.tmp 70) rfl x rfl i0 _ 3 Tryz.underlying27 hI0 hz0 hz1 HXL.out (by decide) (by decide) ?_
            refine hK.out _ _ ?_ (fun hHeld => ?_)
            · exact HRA.out
            clear hK K
            (try simp only [Act.put, List.setIfInBounds_toArray, List.set_cons_zero, List.set_cons_succ, List.getElem_toArray, List.getElem_cons_zero, List.getElem_cons_succ])
            refine wpAnyH_ready (rs := [6]) (by kernel_rfl) (by simp) ?_
            refine AllReadyH.cons rfl (fun K hK => ?_) AllReadyH.nil
            refine step_append_lies _ rfl (.tmp 69) (.tmp 71) 27 rfl w.heap.size 76 i0 _ 3 40 Tryz.underlying27 hI0 hz0 hz1 hz2 rfl (by decide) (.slice A i c) i rows.flatten rfl HRO.out ⟨wE.heap.size, 0, none⟩ 1 1 x rfl (by rw [HXL.out]) (World.news_of_block (cs := x.toArray) (t := 76) (fr := (0, 0)) (heap_alloc_new wE _)) HX1.out (by decide) (by unfold maxLen; omega) (by omega) HBA.out (wE.heap.size + 1) HSZ.out ?_
            intro gg cap w1 hown1 hgrow hat hlt1
            have HOW := Aside0.mk (And.intro hown1 (And.intro hgrow (And.intro hat hlt1)))
            have g1 : w1.rangeAt XB 0 x := fun q v hv => by
              rw [HOW.out.2.1.cell_far _ (Nat.lt_of_lt_of_le hxlt HWB.out.size) (Ne.symm hnx)]
              exact HRA.out q v hv
            have g2 : w1.frozen? ⟨hb, j, none⟩ = false := by
              rw [HOW.out.2.1.frozen_far _ (Nat.lt_of_lt_of_le hhlt HWB.out.size) (Ne.symm hnh)]
              exact HFA.out
            have g3 : w1.cell? ⟨hb, j, none⟩ = some (.slice A i c) := by
              rw [HOW.out.2.1.cell_far _ (Nat.lt_of_lt_of_le hhlt HWB.out.size) (Ne.symm hnh)]
              exact HCA.out
            clear hown1 hgrow hat
            refine hK.out _ _ ?_ (fun hHeld => ?_)
            · exact g1
            clear hK K
            (try simp only [Act.put, List.setIfInBounds_toArray, List.set_cons_zero, List.set_cons_succ, List.getElem_toArray, List.getElem_cons_zero, List.getElem_cons_succ])
            refine' wpAnyH_take (i := 7) (v := _) rfl (by kernel_rfl) (by kernel_rfl) (by kernel_rfl) (fun _ _ _ h => h) ?hy5 (by assumption) ?rs5
            case hy5 => exact .inl ⟨by rfl, by intro w' hSw; go_simp; (try with_reducible rfl)⟩
            (try simp only [Act.put, List.setIfInBounds_toArray, List.set_cons_zero, List.set_cons_succ, List.getElem_toArray, List.getElem_cons_zero, List.getElem_cons_succ])
            refine wpAnyH_ready (rs := [8]) (by kernel_rfl) (by simp) ?_
            refine AllReadyH.cons rfl (fun K hK => ?_) AllReadyH.nil
            go_simp
            refine hK.out _ _ ?_ (fun hHeld => ?_)
            · exact fun q v hv => by rw [World.cell?_of_block (Below.heap_setCell w1 ⟨hb, j, none⟩ _ XB hxh)]; exact g1 q v hv
            clear hK K
            (try simp only [Act.put, List.setIfInBounds_toArray, List.set_cons_zero, List.set_cons_succ, List.getElem_toArray, List.getElem_cons_zero, List.getElem_cons_succ])
            refine wpAnyH_done (by kernel_rfl) ?_ _
            go_wp2
            go_roundw
            case rel =>
              have hgg : (Value.slice (some ⟨gg, 0, none⟩) (i + 1) cap).ownBlock ≠ some hb := by
                intro e
                have e' : gg = hb := by simpa [Value.ownBlock] using e
                rcases HOW.out.2.2.1 with q | q
                · exact hnh (by rw [q, e'])
                · omega
              refine ⟨i + 1, st', rows ++ [x], .slice (some ⟨gg, 0, none⟩) (i + 1) cap, by omega, by simp [HRL.out], by go_num, HDL, ⟨.inr htb⟩, HNX, ⟨?_⟩⟩
              have hr' := HRL.out
              subst hr'
              exact (LRd.push (st' := st') rfl HNE.out.2 (by decide) (Rw.below HE.out.1 HWB.out) (HE.out.2.2.1.keep (HWB.out.block hb hhlt)) HRO.out (HE.out.2.2.2.2.trans (Fr.of_below HWB.out) fun i hi => .inl hi) HOW.out.1 HOW.out.2.1 HNE.out.1 hgg)
            case measure => simp [intOf]; omega
          · refine step_build_one rfl 27 76 (.tmp 70) rfl x rfl i0 _ 3 Tryz.underlying27 hI0 hz0 hz1 HXL.out (by decide) (by decide) ?_
            refine hK.out _ _ ?_ (fun hHeld => ?_)
            · exact HRA.out
            clear hK K
            (try simp only [Act.put, List.setIfInBounds_toArray, List.set_cons_zero, List.set_cons_succ, List.getElem_toArray, List.getElem_cons_zero, List.getElem_cons_succ])
            have k0 := HCA.out
            refine wpAnyH_ready (rs := [3]) (by kernel_rfl) (by simp) ?_
            refine AllReadyH.cons rfl (fun K hK => ?_) AllReadyH.nil
            go_simp
            refine hK.out _ _ ?_ (fun hHeld => ?_)
            · exact HRA.out
            clear hK K
            (try simp only [Act.put, List.setIfInBounds_toArray, List.set_cons_zero, List.set_cons_succ, List.getElem_toArray, List.getElem_cons_zero, List.getElem_cons_succ])
            refine wpAnyH_ready (rs := [6]) (by kernel_rfl) (by simp) ?_
            refine AllReadyH.cons rfl (fun K hK => ?_) AllReadyH.nil
            refine step_append_lies _ rfl (.tmp 69) (.tmp 71) 27 rfl w.heap.size 76 i0 _ 3 40 Tryz.underlying27 hI0 hz0 hz1 hz2 rfl (by decide) (.slice A i c) i rows.flatten rfl HRO.out ⟨wE.heap.size, 0, none⟩ 1 1 x rfl (by rw [HXL.out]) (World.news_of_block (cs := x.toArray) (t := 76) (fr := (0, 0)) (heap_alloc_new wE _)) HX1.out (by decide) (by unfold maxLen; omega) (by omega) HBA.out (wE.heap.size + 1) HSZ.out ?_
            intro gg cap w1 hown1 hgrow hat hlt1
            have HOW := Aside0.mk (And.intro hown1 (And.intro hgrow (And.intro hat hlt1)))
            have g1 : w1.rangeAt XB 0 x := fun q v hv => by
              rw [HOW.out.2.1.cell_far _ (Nat.lt_of_lt_of_le hxlt HWB.out.size) (Ne.symm hnx)]
              exact HRA.out q v hv
            have g2 : w1.frozen? ⟨hb, j, none⟩ = false := by
              rw [HOW.out.2.1.frozen_far _ (Nat.lt_of_lt_of_le hhlt HWB.out.size) (Ne.symm hnh)]
              exact HFA.out
            have g3 : w1.cell? ⟨hb, j, none⟩ = some (.slice A i c) := by
              rw [HOW.out.2.1.cell_far _ (Nat.lt_of_lt_of_le hhlt HWB.out.size) (Ne.symm hnh)]
              exact HCA.out
            clear hown1 hgrow hat
            refine hK.out _ _ ?_ (fun hHeld => ?_)
            · exact g1
            clear hK K
            (try simp only [Act.put, List.setIfInBounds_toArray, List.set_cons_zero, List.set_cons_succ, List.getElem_toArray, List.getElem_cons_zero, List.getElem_cons_succ])
            refine' wpAnyH_take (i := 7) (v := _) rfl (by kernel_rfl) (by kernel_rfl) (by kernel_rfl) (fun _ _ _ h => h) ?hy6 (by assumption) ?rs6
            case hy6 => exact .inl ⟨by rfl, by intro w' hSw; go_simp; (try with_reducible rfl)⟩
            (try simp only [Act.put, List.setIfInBounds_toArray, List.set_cons_zero, List.set_cons_succ, List.getElem_toArray, List.getElem_cons_zero, List.getElem_cons_succ])
            refine wpAnyH_ready (rs := [8]) (by kernel_rfl) (by simp) ?_
            refine AllReadyH.cons rfl (fun K hK => ?_) AllReadyH.nil
            go_simp
            refine hK.out _ _ ?_ (fun hHeld => ?_)
            · exact fun q v hv => by rw [World.cell?_of_block (Below.heap_setCell w1 ⟨hb, j, none⟩ _ XB hxh)]; exact g1 q v hv
            clear hK K
            (try simp only [Act.put, List.setIfInBounds_toArray, List.set_cons_zero, List.set_cons_succ, List.getElem_toArray, List.getElem_cons_zero, List.getElem_cons_succ])
            refine wpAnyH_done (by kernel_rfl) ?_ _
            go_wp2
            go_roundw
            case rel =>
              have hgg : (Value.slice (some ⟨gg, 0, none⟩) (i + 1) cap).ownBlock ≠ some hb := by
                intro e
                have e' : gg = hb := by simpa [Value.ownBlock] using e
                rcases HOW.out.2.2.1 with q | q
                · exact hnh (by rw [q, e'])
                · omega
              refine ⟨i + 1, st', rows ++ [x], .slice (some ⟨gg, 0, none⟩) (i + 1) cap, by omega, by simp [HRL.out], by go_num, HDL, ⟨.inr htb⟩, HNX, ⟨?_⟩⟩
              have hr' := HRL.out
              subst hr'
              exact (LRd.push (st' := st') rfl HNE.out.2 (by decide) (Rw.below HE.out.1 HWB.out) (HE.out.2.2.1.keep (HWB.out.block hb hhlt)) HRO.out (HE.out.2.2.2.2.trans (Fr.of_below HWB.out) fun i hi => .inl hi) HOW.out.1 HOW.out.2.1 HNE.out.1 hgg)
            case measure => simp [intOf]; omega
        · obtain rfl : i = tn := by omega
          have HFN : Aside0 (rdList ks_rule s = (st, rows)) := ⟨by
            rw [HG.out, HRE.out, Nat.sub_self]
            simp [rdRows]⟩
          go_wp2
          go_end0
          refine ⟨rfl, .slice A i c, ?_⟩
          rw [HFN.out]
          exact HI.out
/-! ### list: parcel -/
def ks_parcel : List K := [.t, .t]
theorem sc_parcel_all : sc_parcel = scOf 0 ks_parcel := by rfl
theorem size_parcel : (Tryz.prog.info? 94).map (·.size) = some 2 := by kernel_rfl
theorem info_parcel : (Tryz.prog.info? 94).map (fun i => (i.zero, i.size, i.bytes)) = some (some (.agg #[.string ⟨#[]⟩, .string ⟨#[]⟩]), 2, 32) := by kernel_rfl
set_option maxHeartbeats 8000000 in
set_option maxRecDepth 100000 in
theorem list_parcel_w {B wb bb hb j c : Nat} {A : Option Addr} {bs : List UInt8} {rows : List (List Value)} {w : World} (h : Wr B wb bb bs w) (hc : w.cell? ⟨hb, j, none⟩ = some (.slice A rows.length c)) (hst : Stay B bb w hb) (hr : RowsAt B bb w A 2 rows)
    (hf : ∀ x ∈ rows, Fits ks_parcel x) (hn : rows.length ≤ c) (hn2 : rows.length ≤ 100000000) (hl : bs.length + (encRows rows).length ≤ 140737488355328) :
    Calls Tryz.prog 79 #[.pointer (some ⟨wb, 0, none⟩), .pointer (some ⟨hb, j, none⟩), .func (.func 80) #[] #[]] w (Writ B wb bb (bs ++ encRows rows) w) := by
  obtain ⟨n, hnn⟩ : ∃ n, n = rows.length := ⟨_, rfl⟩
  rw [← hnn] at hc hn hn2
  have HN := Aside0.mk hnn
  have H := Aside0.mk h
  have HST := Aside0.mk hst
  have HR := Aside0.mk hr
  have HF := Aside0.mk hf
  have HL : Aside0 (bs.length + (digits n).length + (rows.flatMap encs).length ≤ 140737488355328) := ⟨by unfold encRows at hl; rw [List.length_append, ← hnn] at hl; omega⟩
  have hwc := h.out
  have HC := Aside0.mk hc
  clear h hst hr hf hl hnn
  go_enter Tryz.func79, Tryz.ntmps79
  go_upto_region 1 with (fail)
  go_region_held3 (fun w' => w'.cell? ⟨wb, 0, none⟩ = some (.pointer (some ⟨bb, 0, none⟩)) ∧ w'.cell? ⟨hb, j, none⟩ = some (.slice A n c)) (first | (go_split_ands; assumption) | (refine ⟨?_, ?_⟩ <;> assumption) | go_keep) (first
    | (go_at_call 94; refine (put_any n (by omega) _ _ (by simp)).mono ?_; rintro e wB ⟨rfl, hk⟩; have hk' : Below w.heap.size w wB := ((alloc_below w _).trans (⟨hk.os, hk.tape, hk.output, hk.size, fun i hi => hk.block i (by simp; omega)⟩ : Below w.heap.size (w.alloc _) wB)); have HB : Aside0 (Wr B wb bb bs wB ∧ Wk B bb w wB) := ⟨H.out.below hk', Wk.of_below H.out.le hk'⟩; clear hk hk'; have g0 := HB.out.1.out; have g1 : wB.cell? ⟨hb, j, none⟩ = some (.slice A n c) := by rw [Stay.cell HST.out HB.out.2]; exact HC.out)
    | (go_at_call 93; refine (HB.out.1.write (digits n) (by have := HL.out; omega)).mono ?_; rintro e wC ⟨⟨z', rfl⟩, hk1, hk2⟩; have HCC : Aside0 (Wr B wb bb (bs ++ digits n) wC ∧ Wk B bb w wC) := ⟨hk1, HB.out.2.trans hk2⟩; clear hk1 hk2; have k0 := HCC.out.1.out; have k1 : wC.cell? ⟨hb, j, none⟩ = some (.slice A n c) := by rw [Stay.cell HST.out HCC.out.2]; exact HC.out)
    | fail)
  go_wp2_with (fail)
  go_loopw [31] (fun v31 wr => ∃ i : Nat, i ≤ n ∧ v31 = .int .i64 i ∧ Aside0 (Wr B wb bb (bs ++ digits n ++ (rows.take i).flatMap encs) wr ∧ Wk B bb w wr)) (fun v31 _ => n - (intOf v31).toNat)
  case atStart => exact ⟨0, by omega, rfl, ⟨by simpa using HCC.out.1, HCC.out.2⟩⟩
  case round =>
    obtain ⟨i, hi, rfl, HI⟩ := hrel
    clear g0 g1 k0 k1 HB HCC
    by_cases hlt : i < n
    · have hil : i < rows.length := by have := HN.out; omega
      obtain ⟨x, hx⟩ : ∃ x, rows[i]? = some x := ⟨_, List.getElem?_eq_getElem hil⟩
      have hxf := HF.out x (List.mem_of_getElem? hx)
      obtain ⟨ad, rfl, hsa, hca⟩ := (HR.out.next HI.out.2).at_ (by omega)
      have hcx := hca i x hx
      have hxl : x.length = 2 := fits_len hxf
      have HE : Aside0 ((rows.take (i + 1)).flatMap encs = (rows.take i).flatMap encs ++ encs x) := ⟨rows_take rows i x hx⟩
      have HLX : Aside0 ((bs ++ digits n ++ (rows.take i).flatMap encs).length + (encs x).length ≤ 140737488355328) := ⟨by
        have h1 := HL.out
        have h2 := rows_le rows (i + 1)
        rw [HE.out, List.length_append] at h2
        simp only [List.length_append]; omega⟩
      have HXF := Aside0.mk hxf
      have HXL := Aside0.mk hxl
      have HCX : Aside0 (∀ m v, x[m]? = some v → wr.cell? ((ad.add (i * 2)).add m) = some v) := ⟨fun m v hv => by rw [add_of_add]; exact hcx m v hv⟩
      have HX1 : Aside0 (x.toArray.all (·.oneCell') = true) := ⟨all_oneCell_toArray (fits_one hxf)⟩
      clear hx hxf hsa hca hcx hxl
      go_wp2_with (first
        | ((with_reducible refine wpList_load_at (op := ⟨some 34, _, _, _, _, _⟩) ?a1 94 (.tmp 33) ?a2 (ad.add (i * 2)) ?a3 x _ HCX.out Tryz.underlying94 ?a4 ?a5 ?a6); (case a1 => rfl); (case a2 => rfl); (case a3 => rfl); (case a4 => rfl); (case a5 => (rw [size_parcel, HXL.out])))
        | ((with_reducible refine wpList_store_new (op := ⟨none, Op.store _ (.tmp 7) (.tmp 34), _, _, _, _⟩) ?b1 94 (.tmp 7) (.tmp 34) ?b2 #[.string ⟨#[]⟩, .string ⟨#[]⟩] x.toArray ?b3 ?b4 ?b5 ?b6 HX1.out ?b7); (case b1 => rfl); (case b2 => rfl); (case b3 => rfl); (case b4 => rfl); (case b5 => (rw [size_parcel]; simp [HXL.out])); (case b6 => simp [HXL.out])))
      have HWX : Aside0 (Wr B wb bb (bs ++ digits n ++ (rows.take i).flatMap encs) (wr.alloc (.cells x.toArray 94)) ∧ Cs wr.heap.size 94 x (wr.alloc (.cells x.toArray 94))) := ⟨HI.out.1.below (alloc_below _ _), cs_alloc _ _ _ _ rfl⟩
      have HEX : Aside0 (encAt sc_parcel x = encs x ∧ OkAt sc_parcel x) := ⟨by rw [sc_parcel_all]; exact ⟨enc_all _ _ (by rw [HXL.out]; rfl), ok_all _ _ HXF.out⟩⟩
      refine (parcel_w HWX.out.1 HWX.out.2 (by decide) (by decide) HEX.out.2 (by rw [HEX.out.1]; exact HLX.out)).mono ?_
      rintro e wE ⟨rfl, p1, p2⟩
      have HEE : Aside0 (Wr B wb bb (bs ++ digits n ++ (rows.take (i + 1)).flatMap encs) wE ∧ Wk B bb w wE) := ⟨by rw [HE.out, ← List.append_assoc, ← HEX.out.1]; exact p1, HI.out.2.trans ((Wk.of_below HI.out.1.le (alloc_below _ _)).trans p2)⟩
      clear p1 p2
      go_wp2
      go_roundw
      case rel => exact ⟨i + 1, by omega, by go_num, HEE⟩
      case measure => simp [intOf]; omega
    · obtain rfl : i = n := by omega
      have HFL : Aside0 (rows.take i = rows) := ⟨List.take_of_length_le (by have := HN.out; omega)⟩
      go_wp2
      go_end0
      have := HI.out
      rw [HFL.out] at this
      refine ⟨rfl, ?_, this.2⟩
      unfold encRows
      rw [← HN.out, ← List.append_assoc]
      exact this.1
theorem zeros_parcel : (#[.string ⟨#[]⟩, .string ⟨#[]⟩] : Array Value) = (ks_parcel.map zeroV).toArray := rfl
set_option maxHeartbeats 8000000 in
set_option maxRecDepth 100000 in
theorem list_parcel_r {wb hb j : Nat} {s : Rd} {HT : TypeId} {hcs : List Value} {w : World} (h : Rw wb s w) (hh : Cs hb HT hcs w) (hj : hcs[j]? = some (.slice none 0 0)) (hne : hb ≠ wb) (hHT : HT ≠ 94) (hl : s.D.length ≤ 100000000) :
    Calls Tryz.prog 79 #[.pointer (some ⟨wb, 0, none⟩), .pointer (some ⟨hb, j, none⟩), .func (.func 80) #[] #[]] w (ListRd wb hb j HT 94 2 hcs (rdList ks_parcel s) w) := by
  obtain ⟨i0, hI0, hz0, hz1, hz2⟩ := infoParts info_parcel
  obtain ⟨tn, htn⟩ : ∃ tn, tn = (takeN s).1 := ⟨_, rfl⟩
  obtain ⟨s1, hs1⟩ : ∃ s1, s1 = (takeN s).2 := ⟨_, rfl⟩
  obtain ⟨s2, hs2⟩ : ∃ s2, s2 = (counted s).2 := ⟨_, rfl⟩
  have ctk := take_r h (by omega)
  rw [← htn, ← hs1] at ctk
  have htl : tn < 9223372036854775808 := by rw [htn]; exact take_lt s
  have hsl : s1.D.length ≤ 100000000 := by rw [hs1]; exact Nat.le_trans (take_len s) hl
  have hjl : j < hcs.length := (List.getElem?_eq_some_iff.1 hj).1
  have HG : Aside0 (rdList ks_parcel s = rdRows ks_parcel tn s2) := ⟨by unfold rdList; rw [hs2, htn]; rfl⟩
  have HE2 : Aside0 (s2 = if s1.D.length < tn then s1.fail else s1) := ⟨by rw [hs2, hs1, htn]; rfl⟩
  have hwc := h.cells.1
  have HH := Aside0.mk (And.intro hh hj)
  have HNE := Aside0.mk (And.intro hne hHT)
  have HHT := Aside0.mk (show hb < w.heap.size ∧ wb < w.heap.size from ⟨hh.lt, Cs.lt h⟩)
  clear h hh hj hHT htn hs1 hs2
  go_enter Tryz.func79, Tryz.ntmps79
  go_wp2_with (fail)
  refine ctk.mono ?_
  rintro e wA ⟨rfl, p1, p2⟩
  have HA : Aside0 (Rw wb s1 wA ∧ Cs hb HT hcs wA ∧ Fr (fun i => i = wb ∨ i = hb) w wA) := ⟨p1, HH.out.1.keep (p2.block hb HH.out.1.lt hne), ⟨p2.os, p2.tape, p2.output, p2.size, fun i hi hn => p2.block i hi fun q => hn (.inl q)⟩⟩
  clear p1 p2 ctk
  obtain ⟨a0, a1, a2, af⟩ := HA.out.1.cells
  obtain ⟨D1, hD1⟩ : ∃ D1 : ByteArray, D1 = ⟨s1.D.toArray⟩ := ⟨_, rfl⟩
  have hD1s : D1.size = s1.D.length := by rw [hD1, size_mk]
  rw [← hD1] at a1
  have HDS := Aside0.mk hD1s
  clear hD1 hD1s
  have hbd : s2.bad = true ∨ tn ≤ 100000000 := by
    rw [HE2.out]
    by_cases hgt : s1.D.length < tn
    · rw [if_pos hgt]; exact .inl rfl
    · right; omega
  have HBD := Aside0.mk hbd
  clear hbd
  go_upto_if 47 with (fail)
  go_cut [] (fun wx => LRd wb hb j HT 94 2 hcs w.heap.size (s2, []) (.slice none 0 0) w wx)
  case first =>
    have hset : hcs.set j (.slice none 0 0) = hcs := by
      apply List.ext_getElem?
      intro q
      rw [List.getElem?_set]
      split
      · rename_i hq
        subst hq
        exact HH.out.2.symm
      · rfl
    have HSET := Aside0.mk hset
    clear hset
    by_cases hgt : s1.D.length < tn
    · have hgt' : (D1.size : Int) < (tn : Int) := by have := HDS.out; omega
      have HGT := Aside0.mk hgt
      clear hgt
      go_wp2
      go_meet
      refine ⟨?_, ?_, World.ownsRow_nil _ _ _ _, HA.out.2.2.set _ _ (.inl (.inl rfl))⟩
      · show Rw wb s2 _
        rw [HE2.out, if_pos HGT.out]
        exact HA.out.1.isBad
      · rw [HSET.out]
        exact Cs.other HA.out.2.1 _ _ (Ne.symm hne)
    · have hgt' : ¬(D1.size : Int) < (tn : Int) := by have := HDS.out; omega
      have HGT := Aside0.mk hgt
      clear hgt
      go_wp2
      go_meet
      refine ⟨?_, ?_, World.ownsRow_nil _ _ _ _, HA.out.2.2⟩
      · show Rw wb s2 _
        rw [HE2.out, if_neg HGT.out]
        exact HA.out.1
      · rw [HSET.out]
        exact HA.out.2.1
  case rest =>
    have HX := Aside0.mk hcut
    clear hcut a0 a1 a2 af HA hwc
    go_wp2_with (fail)
    go_loopw [9] (fun v9 wr => ∃ (i : Nat) (st : Rd) (rows : List (List Value)) (v : Value), i ≤ tn ∧ rows.length = i ∧ v9 = .int .i64 i ∧ Aside0 (st.D.length ≤ 100000000) ∧ Aside0 (st.bad = true ∨ tn ≤ 100000000) ∧ Aside0 (rdRows ks_parcel tn s2 = ((rdRows ks_parcel (tn - i) st).1, rows ++ (rdRows ks_parcel (tn - i) st).2)) ∧ Aside0 (LRd wb hb j HT 94 2 hcs w.heap.size (st, rows) v w wr)) (fun v9 _ => tn - (intOf v9).toNat)
    case atStart => exact ⟨0, s2, [], _, by omega, rfl, rfl, ⟨by rw [HE2.out]; split <;> exact hsl⟩, HBD, ⟨by simp⟩, HX⟩
    case round =>
      obtain ⟨i, st, rows, v, hi, hrl, rfl, HSL, HBT, HRE, HI⟩ := hrel
      clear HX HBD
      obtain ⟨A, c, rfl⟩ : ∃ A c, v = .slice A i c := by rw [← hrl]; exact own_shape HI.out.row
      have HRL := Aside0.mk hrl
      clear hrl
      obtain ⟨b0, b1, b2, bf⟩ := HI.out.rw.cells
      obtain ⟨qb, hbad⟩ : ∃ q, q = st.bad := ⟨_, rfl⟩
      rw [show (st, rows).1.bad = qb from hbad.symm] at b2
      have HBB := Aside0.mk hbad
      clear hbad
      cases qb with
      | true =>
        have HFN : Aside0 (rdList ks_parcel s = (st, rows)) := ⟨by
          rw [HG.out, HRE.out]
          rw [rows_done _ _ st HBB.out.symm]
          simp⟩
        by_cases hlt : i < tn
        all_goals
          go_wp2
          go_end0
          refine ⟨rfl, .slice A i c, ?_⟩
          rw [HFN.out]
          exact HI.out
      | false =>
        by_cases hlt : i < tn
        · have htb : tn ≤ 100000000 := HBT.out.resolve_left (by rw [← HBB.out]; simp)
          have HNX : Aside0 (rdRows ks_parcel tn s2 = ((rdRows ks_parcel (tn - (i + 1)) (rds ks_parcel st (ks_parcel.map zeroV)).1).1, (rows ++ [(rds ks_parcel st (ks_parcel.map zeroV)).2]) ++ (rdRows ks_parcel (tn - (i + 1)) (rds ks_parcel st (ks_parcel.map zeroV)).1).2)) := ⟨by
            rw [HRE.out, show tn - i = (tn - (i + 1)) + 1 from by omega]
            rw [rows_more _ _ st HBB.out.symm]
            simp⟩
          have HFX : Aside0 (Fits ks_parcel (rds ks_parcel st (ks_parcel.map zeroV)).2) := ⟨fits_rds _ _ _ (fits_zero _)⟩
          have HDL : Aside0 ((rds ks_parcel st (ks_parcel.map zeroV)).1.D.length ≤ 100000000) := ⟨by
            rw [← rd_all _ _ _ (by simp)]
            exact Nat.le_trans (rdAt_len _ _).1 HSL.out⟩
          have HRD : Aside0 (rdAt sc_parcel (st, ks_parcel.map zeroV) = rds ks_parcel st (ks_parcel.map zeroV)) := ⟨by rw [sc_parcel_all]; exact rd_all _ _ _ (by simp)⟩
          obtain ⟨p, hp⟩ : ∃ p, p = rds ks_parcel st (ks_parcel.map zeroV) := ⟨_, rfl⟩
          rw [← hp] at HNX HFX HRD HDL
          clear hp HRE
          obtain ⟨st', x⟩ := p
          simp only at HNX HFX HDL
          have hlw := Cs.lt HI.out.rw
          have hlh := HI.out.cs.lt
          go_wp2_with (fail)
          have HZ : Aside0 (Rw wb st (wr.alloc (.cells #[.string ⟨#[]⟩, .string ⟨#[]⟩] 94)) ∧ Cs wr.heap.size 94 (ks_parcel.map zeroV) (wr.alloc (.cells #[.string ⟨#[]⟩, .string ⟨#[]⟩] 94))) := ⟨Rw.below HI.out.rw (alloc_below _ _), cs_alloc _ _ _ _ zeros_parcel⟩
          have HSC : Aside0 (∀ y ∈ sc_parcel, y.2 < (ks_parcel.map zeroV).length) := ⟨by decide⟩
          refine (parcel_r HZ.out.1 HZ.out.2 (by omega) HSC.out (Nat.le_trans HSL.out (by decide))).mono ?_
          rintro e wE ⟨rfl, p1, p2, p3⟩
          rw [HRD.out] at p1 p2
          simp only at p1 p2
          have HE : Aside0 (Rw wb st' wE ∧ Cs wr.heap.size 94 x wE ∧ Cs hb HT (hcs.set j (.slice A i c)) wE ∧ wE.ownsRow w.heap.size 94 2 (.slice A i c) rows.length rows.flatten ∧ Fr (fun i => i = wb ∨ i = hb) w wE) := ⟨by
            have q1 : ∀ b, b < wr.heap.size → b ≠ wb → wE.heap[b]? = wr.heap[b]? := fun b hb' hbw => (p3.block b (by simp; omega) (by rintro (q | q) <;> omega)).trans ((alloc_below wr _).block b hb')
            refine ⟨p1, p2, HI.out.cs.keep (q1 hb hlh hne), own_same HI.out.row fun g hg => q1 g (HI.out.row.lt g hg).2 (fun q => own_ne HI.out.row HI.out.rw (by decide) (by rw [hg, q])), (HI.out.fr.trans (Fr.of_below (alloc_below wr _)) fun i hi => .inl hi).trans p3 fun i hi => ?_⟩
            rcases hi with rfl | rfl
            · exact .inl (.inl rfl)
            · exact .inr HI.out.fr.size⟩
          have hxl : x.length = 2 := fits_len HFX.out
          have HX1 : Aside0 (∀ v ∈ x, v.oneCell' = true) := ⟨fits_one HFX.out⟩
          clear p1 p2 p3 HZ
          have c0 : wE.cell? ⟨hb, j, none⟩ = some (.slice A i c) := by rw [HE.out.2.2.1.cell, List.getElem?_set_self hjl]
          have f0 : wE.frozen? ⟨hb, j, none⟩ = false := HE.out.2.2.1.frozen j
          have hXB : Aside0 (∀ g, (Value.slice A i c).ownBlock = some g → g < wr.heap.size) := ⟨fun g hg => (HI.out.row.lt g hg).2⟩
          have hnh : (Value.slice A i c).ownBlock ≠ some hb := own_ne HE.out.2.2.2.1 HE.out.2.2.1 (Ne.symm HNE.out.2)
          obtain ⟨XB, hxb⟩ : ∃ XB, XB = wr.heap.size := ⟨_, rfl⟩
          rw [← hxb]
          rw [← hxb] at HE hXB
          have hnx : (Value.slice A i c).ownBlock ≠ some XB := fun e => by have := hXB.out XB e; omega
          have r0 : wE.rangeAt XB 0 x := fun q v hv => by rw [Nat.zero_add, HE.out.2.1.cell]; exact hv
          have hxlt := HE.out.2.1.lt
          have hhlt := HE.out.2.2.1.lt
          have hwlt := Cs.lt HE.out.1
          have hu := Tryz.underlying94
          have hi' : (Tryz.prog.info? 94).map (·.size) = some x.length := by rw [size_parcel, hxl]
          have HXL := Aside0.mk hxl
          have HBS : Aside0 (w.heap.size ≤ wE.heap.size) := ⟨HE.out.2.2.2.2.size⟩
          have HXH : Aside0 (hb < XB) := ⟨by rw [hxb]; exact hlh⟩
          clear hxb hxl HI
          go_upto_region 15 with (fail)
          obtain ⟨WA, hWA⟩ : ∃ WA, WA = wE.drew.alloc (.cells x.toArray 94) := ⟨_, rfl⟩
          have HWB : Aside0 (Below wE.heap.size wE WA) := ⟨by rw [hWA]; have b := alloc_below wE (.cells x.toArray 94); exact ⟨b.os, b.tape, b.output, b.size, b.block⟩⟩
          have HRO : Aside0 (WA.ownsRow w.heap.size 94 2 (.slice A i c) i rows.flatten) := ⟨by have := HE.out.2.2.2.1.drew.alloc (.cells x.toArray 94); rw [HRL.out] at this; rw [hWA]; exact this⟩
          have HSZ : Aside0 (WA.heap.size = wE.heap.size + 1) := ⟨by rw [hWA]; simp⟩
          have HBA : Aside0 (w.heap.size ≤ WA.heap.size) := ⟨by have := HSZ.out; have := HBS.out; omega⟩
          have HRA : Aside0 (WA.rangeAt XB 0 x) := ⟨fun q v hv => by rw [World.cell?_of_block (HWB.out.block XB hxlt)]; exact r0 q v hv⟩
          have HFA : Aside0 (WA.frozen? ⟨hb, j, none⟩ = false) := ⟨by rw [World.frozen?_of_block (HWB.out.block hb hhlt)]; exact f0⟩
          have HCA : Aside0 (WA.cell? ⟨hb, j, none⟩ = some (.slice A i c)) := ⟨by rw [World.cell?_of_block (HWB.out.block hb hhlt)]; exact c0⟩
          have hxh : XB ≠ hb := fun e => by have := HXH.out; omega
          subst hWA
          refine wp_region_held_drew (S := (fun w' => w'.rangeAt XB 0 x)) (by kernel_rfl) ?_ (fun hHeld => ?_)
          · exact r0
          refine' wpAnyH_take (i := 0) (v := _) rfl (by kernel_rfl) (by kernel_rfl) (by kernel_rfl) (fun _ _ _ h => h) ?hy1 (by assumption) ?rs1
          case hy1 => exact .inl ⟨by rfl, by intro w' hSw; go_simp; (try with_reducible rfl)⟩
          (try simp only [Act.put, List.setIfInBounds_toArray, List.set_cons_zero, List.set_cons_succ, List.getElem_toArray, List.getElem_cons_zero, List.getElem_cons_succ])
          refine' wpAnyH_take (i := 1) (v := _) rfl (by kernel_rfl) (by kernel_rfl) (by kernel_rfl) (fun _ _ _ h => h) ?hy2 (by assumption) ?rs2
          case hy2 => exact .inl ⟨by rfl, by intro w' hSw; go_simp; (try with_reducible rfl)⟩
          (try simp only [Act.put, List.setIfInBounds_toArray, List.set_cons_zero, List.set_cons_succ, List.getElem_toArray, List.getElem_cons_zero, List.getElem_cons_succ])
          refine' wpAnyH_take (i := 2) (v := _) rfl (by kernel_rfl) (by kernel_rfl) (by kernel_rfl) (fun _ _ _ h => h) ?hy3 (by assumption) ?rs3
          case hy3 => exact .inl ⟨by rfl, by intro w' hSw; go_simp; (try with_reducible rfl)⟩
          (try simp only [Act.put, List.setIfInBounds_toArray, List.set_cons_zero, List.set_cons_succ, List.getElem_toArray, List.getElem_cons_zero, List.getElem_cons_succ])
          refine' wpAnyH_take (i := 4) (v := _) rfl (by kernel_rfl) (by kernel_rfl) (by kernel_rfl) (fun _ _ _ h => h) ?hy4 (by assumption) ?rs4
          case hy4 =>
            refine yieldsIf_load_mid ?ya 94 (.tmp 10) ?yb XB 0 ?yc x _ ?yd hu rfl hi'
            case ya => rfl
            case yb => rfl
            case yc => rfl
            case yd => exact fun w' hS => hS
          (try simp only [Act.put, List.setIfInBounds_toArray, List.set_cons_zero, List.set_cons_succ, List.getElem_toArray, List.getElem_cons_zero, List.getElem_cons_succ])
          refine wpAnyH_ready (rs := [3, 5]) (by kernel_rfl) (by simp) ?_
          refine AllReadyH.cons rfl (fun K hK => ?_) (AllReadyH.cons rfl (fun K hK => ?_) AllReadyH.nil)
          · go_simp
            refine hK.out _ _ ?_ (fun hHeld => ?_)
            · exact r0
            clear hK K
            (try simp only [Act.put, List.setIfInBounds_toArray, List.set_cons_zero, List.set_cons_succ, List.getElem_toArray, List.getElem_cons_zero, List.getElem_cons_succ])
            refine wpAnyH_ready (rs := [5]) (by kernel_rfl) (by simp) ?_
            refine AllReadyH.cons rfl (fun K hK => ?_) AllReadyH.nil
            refine step_build_one rfl 32 94 (.tmp 70) rfl x rfl i0 _ 2 Tryz.underlying32 hI0 hz0 hz1 HXL.out (by decide) (by decide) ?_
            refine hK.out _ _ ?_ (fun hHeld => ?_)
            · exact HRA.out
            clear hK K
            (try simp only [Act.put, List.setIfInBounds_toArray, List.set_cons_zero, List.set_cons_succ, List.getElem_toArray, List.getElem_cons_zero, List.getElem_cons_succ])
            refine wpAnyH_ready (rs := [6]) (by kernel_rfl) (by simp) ?_
            refine AllReadyH.cons rfl (fun K hK => ?_) AllReadyH.nil
            refine step_append_lies _ rfl (.tmp 69) (.tmp 71) 32 rfl w.heap.size 94 i0 _ 2 32 Tryz.underlying32 hI0 hz0 hz1 hz2 rfl (by decide) (.slice A i c) i rows.flatten rfl HRO.out ⟨wE.heap.size, 0, none⟩ 1 1 x rfl (by rw [HXL.out]) (World.news_of_block (cs := x.toArray) (t := 94) (fr := (0, 0)) (heap_alloc_new wE _)) HX1.out (by decide) (by unfold maxLen; omega) (by omega) HBA.out (wE.heap.size + 1) HSZ.out ?_
            intro gg cap w1 hown1 hgrow hat hlt1
            have HOW := Aside0.mk (And.intro hown1 (And.intro hgrow (And.intro hat hlt1)))
            have g1 : w1.rangeAt XB 0 x := fun q v hv => by
              rw [HOW.out.2.1.cell_far _ (Nat.lt_of_lt_of_le hxlt HWB.out.size) (Ne.symm hnx)]
              exact HRA.out q v hv
            have g2 : w1.frozen? ⟨hb, j, none⟩ = false := by
              rw [HOW.out.2.1.frozen_far _ (Nat.lt_of_lt_of_le hhlt HWB.out.size) (Ne.symm hnh)]
              exact HFA.out
            have g3 : w1.cell? ⟨hb, j, none⟩ = some (.slice A i c) := by
              rw [HOW.out.2.1.cell_far _ (Nat.lt_of_lt_of_le hhlt HWB.out.size) (Ne.symm hnh)]
              exact HCA.out
            clear hown1 hgrow hat
            refine hK.out _ _ ?_ (fun hHeld => ?_)
            · exact g1
            clear hK K
            (try simp only [Act.put, List.setIfInBounds_toArray, List.set_cons_zero, List.set_cons_succ, List.getElem_toArray, List.getElem_cons_zero, List.getElem_cons_succ])
            refine' wpAnyH_take (i := 7) (v := _) rfl (by kernel_rfl) (by kernel_rfl) (by kernel_rfl) (fun _ _ _ h => h) ?hy5 (by assumption) ?rs5
            case hy5 => exact .inl ⟨by rfl, by intro w' hSw; go_simp; (try with_reducible rfl)⟩
            (try simp only [Act.put, List.setIfInBounds_toArray, List.set_cons_zero, List.set_cons_succ, List.getElem_toArray, List.getElem_cons_zero, List.getElem_cons_succ])
            refine wpAnyH_ready (rs := [8]) (by kernel_rfl) (by simp) ?_
            refine AllReadyH.cons rfl (fun K hK => ?_) AllReadyH.nil
            go_simp
            refine hK.out _ _ ?_ (fun hHeld => ?_)
            · exact fun q v hv => by rw [World.cell?_of_block (Below.heap_setCell w1 ⟨hb, j, none⟩ _ XB hxh)]; exact g1 q v hv
            clear hK K
            (try simp only [Act.put, List.setIfInBounds_toArray, List.set_cons_zero, List.set_cons_succ, List.getElem_toArray, List.getElem_cons_zero, List.getElem_cons_succ])
            refine wpAnyH_done (by kernel_rfl) ?_ _
            go_wp2
            go_roundw
            case rel =>
              have hgg : (Value.slice (some ⟨gg, 0, none⟩) (i + 1) cap).ownBlock ≠ some hb := by
                intro e
                have e' : gg = hb := by simpa [Value.ownBlock] using e
                rcases HOW.out.2.2.1 with q | q
                · exact hnh (by rw [q, e'])
                · omega
              refine ⟨i + 1, st', rows ++ [x], .slice (some ⟨gg, 0, none⟩) (i + 1) cap, by omega, by simp [HRL.out], by go_num, HDL, ⟨.inr htb⟩, HNX, ⟨?_⟩⟩
              have hr' := HRL.out
              subst hr'
              exact (LRd.push (st' := st') rfl HNE.out.2 (by decide) (Rw.below HE.out.1 HWB.out) (HE.out.2.2.1.keep (HWB.out.block hb hhlt)) HRO.out (HE.out.2.2.2.2.trans (Fr.of_below HWB.out) fun i hi => .inl hi) HOW.out.1 HOW.out.2.1 HNE.out.1 hgg)
            case measure => simp [intOf]; omega
          · refine step_build_one rfl 32 94 (.tmp 70) rfl x rfl i0 _ 2 Tryz.underlying32 hI0 hz0 hz1 HXL.out (by decide) (by decide) ?_
            refine hK.out _ _ ?_ (fun hHeld => ?_)
            · exact HRA.out
            clear hK K
            (try simp only [Act.put, List.setIfInBounds_toArray, List.set_cons_zero, List.set_cons_succ, List.getElem_toArray, List.getElem_cons_zero, List.getElem_cons_succ])
            have k0 := HCA.out
            refine wpAnyH_ready (rs := [3]) (by kernel_rfl) (by simp) ?_
            refine AllReadyH.cons rfl (fun K hK => ?_) AllReadyH.nil
            go_simp
            refine hK.out _ _ ?_ (fun hHeld => ?_)
            · exact HRA.out
            clear hK K
            (try simp only [Act.put, List.setIfInBounds_toArray, List.set_cons_zero, List.set_cons_succ, List.getElem_toArray, List.getElem_cons_zero, List.getElem_cons_succ])
            refine wpAnyH_ready (rs := [6]) (by kernel_rfl) (by simp) ?_
            refine AllReadyH.cons rfl (fun K hK => ?_) AllReadyH.nil
            refine step_append_lies _ rfl (.tmp 69) (.tmp 71) 32 rfl w.heap.size 94 i0 _ 2 32 Tryz.underlying32 hI0 hz0 hz1 hz2 rfl (by decide) (.slice A i c) i rows.flatten rfl HRO.out ⟨wE.heap.size, 0, none⟩ 1 1 x rfl (by rw [HXL.out]) (World.news_of_block (cs := x.toArray) (t := 94) (fr := (0, 0)) (heap_alloc_new wE _)) HX1.out (by decide) (by unfold maxLen; omega) (by omega) HBA.out (wE.heap.size + 1) HSZ.out ?_
            intro gg cap w1 hown1 hgrow hat hlt1
            have HOW := Aside0.mk (And.intro hown1 (And.intro hgrow (And.intro hat hlt1)))
            have g1 : w1.rangeAt XB 0 x := fun q v hv => by
              rw [HOW.out.2.1.cell_far _ (Nat.lt_of_lt_of_le hxlt HWB.out.size) (Ne.symm hnx)]
              exact HRA.out q v hv
            have g2 : w1.frozen? ⟨hb, j, none⟩ = false := by
              rw [HOW.out.2.1.frozen_far _ (Nat.lt_of_lt_of_le hhlt HWB.out.size) (Ne.symm hnh)]
              exact HFA.out
            have g3 : w1.cell? ⟨hb, j, none⟩ = some (.slice A i c) := by
              rw [HOW.out.2.1.cell_far _ (Nat.lt_of_lt_of_le hhlt HWB.out.size) (Ne.symm hnh)]
              exact HCA.out
            clear hown1 hgrow hat
            refine hK.out _ _ ?_ (fun hHeld => ?_)
            · exact g1
            clear hK K
            (try simp only [Act.put, List.setIfInBounds_toArray, List.set_cons_zero, List.set_cons_succ, List.getElem_toArray, List.getElem_cons_zero, List.getElem_cons_succ])
            refine' wpAnyH_take (i := 7) (v := _) rfl (by kernel_rfl) (by kernel_rfl) (by kernel_rfl) (fun _ _ _ h => h) ?hy6 (by assumption) ?rs6
            case hy6 => exact .inl ⟨by rfl, by intro w' hSw; go_simp; (try with_reducible rfl)⟩
            (try simp only [Act.put, List.setIfInBounds_toArray, List.set_cons_zero, List.set_cons_succ, List.getElem_toArray, List.getElem_cons_zero, List.getElem_cons_succ])
            refine wpAnyH_ready (rs := [8]) (by kernel_rfl) (by simp) ?_
            refine AllReadyH.cons rfl (fun K hK => ?_) AllReadyH.nil
            go_simp
            refine hK.out _ _ ?_ (fun hHeld => ?_)
            · exact fun q v hv => by rw [World.cell?_of_block (Below.heap_setCell w1 ⟨hb, j, none⟩ _ XB hxh)]; exact g1 q v hv
            clear hK K
            (try simp only [Act.put, List.setIfInBounds_toArray, List.set_cons_zero, List.set_cons_succ, List.getElem_toArray, List.getElem_cons_zero, List.getElem_cons_succ])
            refine wpAnyH_done (by kernel_rfl) ?_ _
            go_wp2
            go_roundw
            case rel =>
              have hgg : (Value.slice (some ⟨gg, 0, none⟩) (i + 1) cap).ownBlock ≠ some hb := by
                intro e
                have e' : gg = hb := by simpa [Value.ownBlock] using e
                rcases HOW.out.2.2.1 with q | q
                · exact hnh (by rw [q, e'])
                · omega
              refine ⟨i + 1, st', rows ++ [x], .slice (some ⟨gg, 0, none⟩) (i + 1) cap, by omega, by simp [HRL.out], by go_num, HDL, ⟨.inr htb⟩, HNX, ⟨?_⟩⟩
              have hr' := HRL.out
              subst hr'
              exact (LRd.push (st' := st') rfl HNE.out.2 (by decide) (Rw.below HE.out.1 HWB.out) (HE.out.2.2.1.keep (HWB.out.block hb hhlt)) HRO.out (HE.out.2.2.2.2.trans (Fr.of_below HWB.out) fun i hi => .inl hi) HOW.out.1 HOW.out.2.1 HNE.out.1 hgg)
            case measure => simp [intOf]; omega
        · obtain rfl : i = tn := by omega
          have HFN : Aside0 (rdList ks_parcel s = (st, rows)) := ⟨by
            rw [HG.out, HRE.out, Nat.sub_self]
            simp [rdRows]⟩
          go_wp2
          go_end0
          refine ⟨rfl, .slice A i c, ?_⟩
          rw [HFN.out]
          exact HI.out
/-! ### list: sent -/
def ks_sent : List K := [.t, .t, .t, .n, .n]
theorem sc_sent_all : sc_sent = scOf 0 ks_sent := by rfl
theorem size_sent : (Tryz.prog.info? 97).map (·.size) = some 5 := by kernel_rfl
theorem info_sent : (Tryz.prog.info? 97).map (fun i => (i.zero, i.size, i.bytes)) = some (some (.agg #[.string ⟨#[]⟩, .string ⟨#[]⟩, .string ⟨#[]⟩, .int .i64 0, .int .i64 0]), 5, 64) := by kernel_rfl
set_option maxHeartbeats 8000000 in
set_option maxRecDepth 100000 in
theorem list_sent_w {B wb bb hb j c : Nat} {A : Option Addr} {bs : List UInt8} {rows : List (List Value)} {w : World} (h : Wr B wb bb bs w) (hc : w.cell? ⟨hb, j, none⟩ = some (.slice A rows.length c)) (hst : Stay B bb w hb) (hr : RowsAt B bb w A 5 rows)
    (hf : ∀ x ∈ rows, Fits ks_sent x) (hn : rows.length ≤ c) (hn2 : rows.length ≤ 100000000) (hl : bs.length + (encRows rows).length ≤ 140737488355328) :
    Calls Tryz.prog 81 #[.pointer (some ⟨wb, 0, none⟩), .pointer (some ⟨hb, j, none⟩), .func (.func 82) #[] #[]] w (Writ B wb bb (bs ++ encRows rows) w) := by
  obtain ⟨n, hnn⟩ : ∃ n, n = rows.length := ⟨_, rfl⟩
  rw [← hnn] at hc hn hn2
  have HN := Aside0.mk hnn
  have H := Aside0.mk h
  have HST := Aside0.mk hst
  have HR := Aside0.mk hr
  have HF := Aside0.mk hf
  have HL : Aside0 (bs.length + (digits n).length + (rows.flatMap encs).length ≤ 140737488355328) := ⟨by unfold encRows at hl; rw [List.length_append, ← hnn] at hl; omega⟩
  have hwc := h.out
  have HC := Aside0.mk hc
  clear h hst hr hf hl hnn
  go_enter Tryz.func81, Tryz.ntmps81
  go_upto_region 1 with (fail)
  go_region_held3 (fun w' => w'.cell? ⟨wb, 0, none⟩ = some (.pointer (some ⟨bb, 0, none⟩)) ∧ w'.cell? ⟨hb, j, none⟩ = some (.slice A n c)) (first | (go_split_ands; assumption) | (refine ⟨?_, ?_⟩ <;> assumption) | go_keep) (first
    | (go_at_call 94; refine (put_any n (by omega) _ _ (by simp)).mono ?_; rintro e wB ⟨rfl, hk⟩; have hk' : Below w.heap.size w wB := ((alloc_below w _).trans (⟨hk.os, hk.tape, hk.output, hk.size, fun i hi => hk.block i (by simp; omega)⟩ : Below w.heap.size (w.alloc _) wB)); have HB : Aside0 (Wr B wb bb bs wB ∧ Wk B bb w wB) := ⟨H.out.below hk', Wk.of_below H.out.le hk'⟩; clear hk hk'; have g0 := HB.out.1.out; have g1 : wB.cell? ⟨hb, j, none⟩ = some (.slice A n c) := by rw [Stay.cell HST.out HB.out.2]; exact HC.out)
    | (go_at_call 93; refine (HB.out.1.write (digits n) (by have := HL.out; omega)).mono ?_; rintro e wC ⟨⟨z', rfl⟩, hk1, hk2⟩; have HCC : Aside0 (Wr B wb bb (bs ++ digits n) wC ∧ Wk B bb w wC) := ⟨hk1, HB.out.2.trans hk2⟩; clear hk1 hk2; have k0 := HCC.out.1.out; have k1 : wC.cell? ⟨hb, j, none⟩ = some (.slice A n c) := by rw [Stay.cell HST.out HCC.out.2]; exact HC.out)
    | fail)
  go_wp2_with (fail)
  go_loopw [31] (fun v31 wr => ∃ i : Nat, i ≤ n ∧ v31 = .int .i64 i ∧ Aside0 (Wr B wb bb (bs ++ digits n ++ (rows.take i).flatMap encs) wr ∧ Wk B bb w wr)) (fun v31 _ => n - (intOf v31).toNat)
  case atStart => exact ⟨0, by omega, rfl, ⟨by simpa using HCC.out.1, HCC.out.2⟩⟩
  case round =>
    obtain ⟨i, hi, rfl, HI⟩ := hrel
    clear g0 g1 k0 k1 HB HCC
    by_cases hlt : i < n
    · have hil : i < rows.length := by have := HN.out; omega
      obtain ⟨x, hx⟩ : ∃ x, rows[i]? = some x := ⟨_, List.getElem?_eq_getElem hil⟩
      have hxf := HF.out x (List.mem_of_getElem? hx)
      obtain ⟨ad, rfl, hsa, hca⟩ := (HR.out.next HI.out.2).at_ (by omega)
      have hcx := hca i x hx
      have hxl : x.length = 5 := fits_len hxf
      have HE : Aside0 ((rows.take (i + 1)).flatMap encs = (rows.take i).flatMap encs ++ encs x) := ⟨rows_take rows i x hx⟩
      have HLX : Aside0 ((bs ++ digits n ++ (rows.take i).flatMap encs).length + (encs x).length ≤ 140737488355328) := ⟨by
        have h1 := HL.out
        have h2 := rows_le rows (i + 1)
        rw [HE.out, List.length_append] at h2
        simp only [List.length_append]; omega⟩
      have HXF := Aside0.mk hxf
      have HXL := Aside0.mk hxl
      have HCX : Aside0 (∀ m v, x[m]? = some v → wr.cell? ((ad.add (i * 5)).add m) = some v) := ⟨fun m v hv => by rw [add_of_add]; exact hcx m v hv⟩
      have HX1 : Aside0 (x.toArray.all (·.oneCell') = true) := ⟨all_oneCell_toArray (fits_one hxf)⟩
      clear hx hxf hsa hca hcx hxl
      go_wp2_with (first
        | ((with_reducible refine wpList_load_at (op := ⟨some 34, _, _, _, _, _⟩) ?a1 97 (.tmp 33) ?a2 (ad.add (i * 5)) ?a3 x _ HCX.out Tryz.underlying97 ?a4 ?a5 ?a6); (case a1 => rfl); (case a2 => rfl); (case a3 => rfl); (case a4 => rfl); (case a5 => (rw [size_sent, HXL.out])))
        | ((with_reducible refine wpList_store_new (op := ⟨none, Op.store _ (.tmp 7) (.tmp 34), _, _, _, _⟩) ?b1 97 (.tmp 7) (.tmp 34) ?b2 #[.string ⟨#[]⟩, .string ⟨#[]⟩, .string ⟨#[]⟩, .int .i64 0, .int .i64 0] x.toArray ?b3 ?b4 ?b5 ?b6 HX1.out ?b7); (case b1 => rfl); (case b2 => rfl); (case b3 => rfl); (case b4 => rfl); (case b5 => (rw [size_sent]; simp [HXL.out])); (case b6 => simp [HXL.out])))
      have HWX : Aside0 (Wr B wb bb (bs ++ digits n ++ (rows.take i).flatMap encs) (wr.alloc (.cells x.toArray 97)) ∧ Cs wr.heap.size 97 x (wr.alloc (.cells x.toArray 97))) := ⟨HI.out.1.below (alloc_below _ _), cs_alloc _ _ _ _ rfl⟩
      have HEX : Aside0 (encAt sc_sent x = encs x ∧ OkAt sc_sent x) := ⟨by rw [sc_sent_all]; exact ⟨enc_all _ _ (by rw [HXL.out]; rfl), ok_all _ _ HXF.out⟩⟩
      refine (sent_w HWX.out.1 HWX.out.2 (by decide) (by decide) HEX.out.2 (by rw [HEX.out.1]; exact HLX.out)).mono ?_
      rintro e wE ⟨rfl, p1, p2⟩
      have HEE : Aside0 (Wr B wb bb (bs ++ digits n ++ (rows.take (i + 1)).flatMap encs) wE ∧ Wk B bb w wE) := ⟨by rw [HE.out, ← List.append_assoc, ← HEX.out.1]; exact p1, HI.out.2.trans ((Wk.of_below HI.out.1.le (alloc_below _ _)).trans p2)⟩
      clear p1 p2
      go_wp2
      go_roundw
      case rel => exact ⟨i + 1, by omega, by go_num, HEE⟩
      case measure => simp [intOf]; omega
    · obtain rfl : i = n := by omega
      have HFL : Aside0 (rows.take i = rows) := ⟨List.take_of_length_le (by have := HN.out; omega)⟩
      go_wp2
      go_end0
      have := HI.out
      rw [HFL.out] at this
      refine ⟨rfl, ?_, this.2⟩
      unfold encRows
      rw [← HN.out, ← List.append_assoc]
      exact this.1
theorem zeros_sent : (#[.string ⟨#[]⟩, .string ⟨#[]⟩, .string ⟨#[]⟩, .int .i64 0, .int .i64 0] : Array Value) = (ks_sent.map zeroV).toArray := rfl
set_option maxHeartbeats 8000000 in
set_option maxRecDepth 100000 in
theorem list_sent_r {wb hb j : Nat} {s : Rd} {HT : TypeId} {hcs : List Value} {w : World} (h : Rw wb s w) (hh : Cs hb HT hcs w) (hj : hcs[j]? = some (.slice none 0 0)) (hne : hb ≠ wb) (hHT : HT ≠ 97) (hl : s.D.length ≤ 100000000) :
    Calls Tryz.prog 81 #[.pointer (some ⟨wb, 0, none⟩), .pointer (some ⟨hb, j, none⟩), .func (.func 82) #[] #[]] w (ListRd wb hb j HT 97 5 hcs (rdList ks_sent s) w) := by
  obtain ⟨i0, hI0, hz0, hz1, hz2⟩ := infoParts info_sent
  obtain ⟨tn, htn⟩ : ∃ tn, tn = (takeN s).1 := ⟨_, rfl⟩
  obtain ⟨s1, hs1⟩ : ∃ s1, s1 = (takeN s).2 := ⟨_, rfl⟩
  obtain ⟨s2, hs2⟩ : ∃ s2, s2 = (counted s).2 := ⟨_, rfl⟩
  have ctk := take_r h (by omega)
  rw [← htn, ← hs1] at ctk
  have htl : tn < 9223372036854775808 := by rw [htn]; exact take_lt s
  have hsl : s1.D.length ≤ 100000000 := by rw [hs1]; exact Nat.le_trans (take_len s) hl
  have hjl : j < hcs.length := (List.getElem?_eq_some_iff.1 hj).1
  have HG : Aside0 (rdList ks_sent s = rdRows ks_sent tn s2) := ⟨by unfold rdList; rw [hs2, htn]; rfl⟩
  have HE2 : Aside0 (s2 = if s1.D.length < tn then s1.fail else s1) := ⟨by rw [hs2, hs1, htn]; rfl⟩
  have hwc := h.cells.1
  have HH := Aside0.mk (And.intro hh hj)
  have HNE := Aside0.mk (And.intro hne hHT)
  have HHT := Aside0.mk (show hb < w.heap.size ∧ wb < w.heap.size from ⟨hh.lt, Cs.lt h⟩)
  clear h hh hj hHT htn hs1 hs2
  go_enter Tryz.func81, Tryz.ntmps81
  go_wp2_with (fail)
  refine ctk.mono ?_
  rintro e wA ⟨rfl, p1, p2⟩
  have HA : Aside0 (Rw wb s1 wA ∧ Cs hb HT hcs wA ∧ Fr (fun i => i = wb ∨ i = hb) w wA) := ⟨p1, HH.out.1.keep (p2.block hb HH.out.1.lt hne), ⟨p2.os, p2.tape, p2.output, p2.size, fun i hi hn => p2.block i hi fun q => hn (.inl q)⟩⟩
  clear p1 p2 ctk
  obtain ⟨a0, a1, a2, af⟩ := HA.out.1.cells
  obtain ⟨D1, hD1⟩ : ∃ D1 : ByteArray, D1 = ⟨s1.D.toArray⟩ := ⟨_, rfl⟩
  have hD1s : D1.size = s1.D.length := by rw [hD1, size_mk]
  rw [← hD1] at a1
  have HDS := Aside0.mk hD1s
  clear hD1 hD1s
  have hbd : s2.bad = true ∨ tn ≤ 100000000 := by
    rw [HE2.out]
    by_cases hgt : s1.D.length < tn
    · rw [if_pos hgt]; exact .inl rfl
    · right; omega
  have HBD := Aside0.mk hbd
  clear hbd
  go_upto_if 47 with (fail)
  go_cut [] (fun wx => LRd wb hb j HT 97 5 hcs w.heap.size (s2, []) (.slice none 0 0) w wx)
  case first =>
    have hset : hcs.set j (.slice none 0 0) = hcs := by
      apply List.ext_getElem?
      intro q
      rw [List.getElem?_set]
      split
      · rename_i hq
        subst hq
        exact HH.out.2.symm
      · rfl
    have HSET := Aside0.mk hset
    clear hset
    by_cases hgt : s1.D.length < tn
    · have hgt' : (D1.size : Int) < (tn : Int) := by have := HDS.out; omega
      have HGT := Aside0.mk hgt
      clear hgt
      go_wp2
      go_meet
      refine ⟨?_, ?_, World.ownsRow_nil _ _ _ _, HA.out.2.2.set _ _ (.inl (.inl rfl))⟩
      · show Rw wb s2 _
        rw [HE2.out, if_pos HGT.out]
        exact HA.out.1.isBad
      · rw [HSET.out]
        exact Cs.other HA.out.2.1 _ _ (Ne.symm hne)
    · have hgt' : ¬(D1.size : Int) < (tn : Int) := by have := HDS.out; omega
      have HGT := Aside0.mk hgt
      clear hgt
      go_wp2
      go_meet
      refine ⟨?_, ?_, World.ownsRow_nil _ _ _ _, HA.out.2.2⟩
      · show Rw wb s2 _
        rw [HE2.out, if_neg HGT.out]
        exact HA.out.1
      · rw [HSET.out]
        exact HA.out.2.1
  case rest =>
    have HX := Aside0.mk hcut
    clear hcut a0 a1 a2 af HA hwc
    go_wp2_with (fail)
    go_loopw [9] (fun v9 wr => ∃ (i : Nat) (st : Rd) (rows : List (List Value)) (v : Value), i ≤ tn ∧ rows.length = i ∧ v9 = .int .i64 i ∧ Aside0 (st.D.length ≤ 100000000) ∧ Aside0 (st.bad = true ∨ tn ≤ 100000000) ∧ Aside0 (rdRows ks_sent tn s2 = ((rdRows ks_sent (tn - i) st).1, rows ++ (rdRows ks_sent (tn - i) st).2)) ∧ Aside0 (LRd wb hb j HT 97 5 hcs w.heap.size (st, rows) v w wr)) (fun v9 _ => tn - (intOf v9).toNat)
    case atStart => exact ⟨0, s2, [], _, by omega, rfl, rfl, ⟨by rw [HE2.out]; split <;> exact hsl⟩, HBD, ⟨by simp⟩, HX⟩
    case round =>
      obtain ⟨i, st, rows, v, hi, hrl, rfl, HSL, HBT, HRE, HI⟩ := hrel
      clear HX HBD
      obtain ⟨A, c, rfl⟩ : ∃ A c, v = .slice A i c := by rw [← hrl]; exact own_shape HI.out.row
      have HRL := Aside0.mk hrl
      clear hrl
      obtain ⟨b0, b1, b2, bf⟩ := HI.out.rw.cells
      obtain ⟨qb, hbad⟩ : ∃ q, q = st.bad := ⟨_, rfl⟩
      rw [show (st, rows).1.bad = qb from hbad.symm] at b2
      have HBB := Aside0.mk hbad
      clear hbad
      cases qb with
      | true =>
        have HFN : Aside0 (rdList ks_sent s = (st, rows)) := ⟨by
          rw [HG.out, HRE.out]
          rw [rows_done _ _ st HBB.out.symm]
          simp⟩
        by_cases hlt : i < tn
        all_goals
          go_wp2
          go_end0
          refine ⟨rfl, .slice A i c, ?_⟩
          rw [HFN.out]
          exact HI.out
      | false =>
        by_cases hlt : i < tn
        · have htb : tn ≤ 100000000 := HBT.out.resolve_left (by rw [← HBB.out]; simp)
          have HNX : Aside0 (rdRows ks_sent tn s2 = ((rdRows ks_sent (tn - (i + 1)) (rds ks_sent st (ks_sent.map zeroV)).1).1, (rows ++ [(rds ks_sent st (ks_sent.map zeroV)).2]) ++ (rdRows ks_sent (tn - (i + 1)) (rds ks_sent st (ks_sent.map zeroV)).1).2)) := ⟨by
            rw [HRE.out, show tn - i = (tn - (i + 1)) + 1 from by omega]
            rw [rows_more _ _ st HBB.out.symm]
            simp⟩
          have HFX : Aside0 (Fits ks_sent (rds ks_sent st (ks_sent.map zeroV)).2) := ⟨fits_rds _ _ _ (fits_zero _)⟩
          have HDL : Aside0 ((rds ks_sent st (ks_sent.map zeroV)).1.D.length ≤ 100000000) := ⟨by
            rw [← rd_all _ _ _ (by simp)]
            exact Nat.le_trans (rdAt_len _ _).1 HSL.out⟩
          have HRD : Aside0 (rdAt sc_sent (st, ks_sent.map zeroV) = rds ks_sent st (ks_sent.map zeroV)) := ⟨by rw [sc_sent_all]; exact rd_all _ _ _ (by simp)⟩
          obtain ⟨p, hp⟩ : ∃ p, p = rds ks_sent st (ks_sent.map zeroV) := ⟨_, rfl⟩
          rw [← hp] at HNX HFX HRD HDL
          clear hp HRE
          obtain ⟨st', x⟩ := p
          simp only at HNX HFX HDL
          have hlw := Cs.lt HI.out.rw
          have hlh := HI.out.cs.lt
          go_wp2_with (fail)
          have HZ : Aside0 (Rw wb st (wr.alloc (.cells #[.string ⟨#[]⟩, .string ⟨#[]⟩, .string ⟨#[]⟩, .int .i64 0, .int .i64 0] 97)) ∧ Cs wr.heap.size 97 (ks_sent.map zeroV) (wr.alloc (.cells #[.string ⟨#[]⟩, .string ⟨#[]⟩, .string ⟨#[]⟩, .int .i64 0, .int .i64 0] 97))) := ⟨Rw.below HI.out.rw (alloc_below _ _), cs_alloc _ _ _ _ zeros_sent⟩
          have HSC : Aside0 (∀ y ∈ sc_sent, y.2 < (ks_sent.map zeroV).length) := ⟨by decide⟩
          refine (sent_r HZ.out.1 HZ.out.2 (by omega) HSC.out (Nat.le_trans HSL.out (by decide))).mono ?_
          rintro e wE ⟨rfl, p1, p2, p3⟩
          rw [HRD.out] at p1 p2
          simp only at p1 p2
          have HE : Aside0 (Rw wb st' wE ∧ Cs wr.heap.size 97 x wE ∧ Cs hb HT (hcs.set j (.slice A i c)) wE ∧ wE.ownsRow w.heap.size 97 5 (.slice A i c) rows.length rows.flatten ∧ Fr (fun i => i = wb ∨ i = hb) w wE) := ⟨by
            have q1 : ∀ b, b < wr.heap.size → b ≠ wb → wE.heap[b]? = wr.heap[b]? := fun b hb' hbw => (p3.block b (by simp; omega) (by rintro (q | q) <;> omega)).trans ((alloc_below wr _).block b hb')
            refine ⟨p1, p2, HI.out.cs.keep (q1 hb hlh hne), own_same HI.out.row fun g hg => q1 g (HI.out.row.lt g hg).2 (fun q => own_ne HI.out.row HI.out.rw (by decide) (by rw [hg, q])), (HI.out.fr.trans (Fr.of_below (alloc_below wr _)) fun i hi => .inl hi).trans p3 fun i hi => ?_⟩
            rcases hi with rfl | rfl
            · exact .inl (.inl rfl)
            · exact .inr HI.out.fr.size⟩
          have hxl : x.length = 5 := fits_len HFX.out
          have HX1 : Aside0 (∀ v ∈ x, v.oneCell' = true) := ⟨fits_one HFX.out⟩
          clear p1 p2 p3 HZ
          have c0 : wE.cell? ⟨hb, j, none⟩ = some (.slice A i c) := by rw [HE.out.2.2.1.cell, List.getElem?_set_self hjl]
          have f0 : wE.frozen? ⟨hb, j, none⟩ = false := HE.out.2.2.1.frozen j
          have hXB : Aside0 (∀ g, (Value.slice A i c).ownBlock = some g → g < wr.heap.size) := ⟨fun g hg => (HI.out.row.lt g hg).2⟩
          have hnh : (Value.slice A i c).ownBlock ≠ some hb := own_ne HE.out.2.2.2.1 HE.out.2.2.1 (Ne.symm HNE.out.2)
          obtain ⟨XB, hxb⟩ : ∃ XB, XB = wr.heap.size := ⟨_, rfl⟩
          rw [← hxb]
          rw [← hxb] at HE hXB
          have hnx : (Value.slice A i c).ownBlock ≠ some XB := fun e => by have := hXB.out XB e; omega
          have r0 : wE.rangeAt XB 0 x := fun q v hv => by rw [Nat.zero_add, HE.out.2.1.cell]; exact hv
          have hxlt := HE.out.2.1.lt
          have hhlt := HE.out.2.2.1.lt
          have hwlt := Cs.lt HE.out.1
          have hu := Tryz.underlying97
          have hi' : (Tryz.prog.info? 97).map (·.size) = some x.length := by rw [size_sent, hxl]
          have HXL := Aside0.mk hxl
          have HBS : Aside0 (w.heap.size ≤ wE.heap.size) := ⟨HE.out.2.2.2.2.size⟩
          have HXH : Aside0 (hb < XB) := ⟨by rw [hxb]; exact hlh⟩
          clear hxb hxl HI
          go_upto_region 15 with (fail)
          obtain ⟨WA, hWA⟩ : ∃ WA, WA = wE.drew.alloc (.cells x.toArray 97) := ⟨_, rfl⟩
          have HWB : Aside0 (Below wE.heap.size wE WA) := ⟨by rw [hWA]; have b := alloc_below wE (.cells x.toArray 97); exact ⟨b.os, b.tape, b.output, b.size, b.block⟩⟩
          have HRO : Aside0 (WA.ownsRow w.heap.size 97 5 (.slice A i c) i rows.flatten) := ⟨by have := HE.out.2.2.2.1.drew.alloc (.cells x.toArray 97); rw [HRL.out] at this; rw [hWA]; exact this⟩
          have HSZ : Aside0 (WA.heap.size = wE.heap.size + 1) := ⟨by rw [hWA]; simp⟩
          have HBA : Aside0 (w.heap.size ≤ WA.heap.size) := ⟨by have := HSZ.out; have := HBS.out; omega⟩
          have HRA : Aside0 (WA.rangeAt XB 0 x) := ⟨fun q v hv => by rw [World.cell?_of_block (HWB.out.block XB hxlt)]; exact r0 q v hv⟩
          have HFA : Aside0 (WA.frozen? ⟨hb, j, none⟩ = false) := ⟨by rw [World.frozen?_of_block (HWB.out.block hb hhlt)]; exact f0⟩
          have HCA : Aside0 (WA.cell? ⟨hb, j, none⟩ = some (.slice A i c)) := ⟨by rw [World.cell?_of_block (HWB.out.block hb hhlt)]; exact c0⟩
          have hxh : XB ≠ hb := fun e => by have := HXH.out; omega
          subst hWA
          refine wp_region_held_drew (S := (fun w' => w'.rangeAt XB 0 x)) (by kernel_rfl) ?_ (fun hHeld => ?_)
          · exact r0
          refine' wpAnyH_take (i := 0) (v := _) rfl (by kernel_rfl) (by kernel_rfl) (by kernel_rfl) (fun _ _ _ h => h) ?hy1 (by assumption) ?rs1
          case hy1 => exact .inl ⟨by rfl, by intro w' hSw; go_simp; (try with_reducible rfl)⟩
          (try simp only [Act.put, List.setIfInBounds_toArray, List.set_cons_zero, List.set_cons_succ, List.getElem_toArray, List.getElem_cons_zero, List.getElem_cons_succ])
          refine' wpAnyH_take (i := 1) (v := _) rfl (by kernel_rfl) (by kernel_rfl) (by kernel_rfl) (fun _ _ _ h => h) ?hy2 (by assumption) ?rs2
          case hy2 => exact .inl ⟨by rfl, by intro w' hSw; go_simp; (try with_reducible rfl)⟩
          (try simp only [Act.put, List.setIfInBounds_toArray, List.set_cons_zero, List.set_cons_succ, List.getElem_toArray, List.getElem_cons_zero, List.getElem_cons_succ])
          refine' wpAnyH_take (i := 2) (v := _) rfl (by kernel_rfl) (by kernel_rfl) (by kernel_rfl) (fun _ _ _ h => h) ?hy3 (by assumption) ?rs3
          case hy3 => exact .inl ⟨by rfl, by intro w' hSw; go_simp; (try with_reducible rfl)⟩
          (try simp only [Act.put, List.setIfInBounds_toArray, List.set_cons_zero, List.set_cons_succ, List.getElem_toArray, List.getElem_cons_zero, List.getElem_cons_succ])
          refine' wpAnyH_take (i := 4) (v := _) rfl (by kernel_rfl) (by kernel_rfl) (by kernel_rfl) (fun _ _ _ h => h) ?hy4 (by assumption) ?rs4
          case hy4 =>
            refine yieldsIf_load_mid ?ya 97 (.tmp 10) ?yb XB 0 ?yc x _ ?yd hu rfl hi'
            case ya => rfl
            case yb => rfl
            case yc => rfl
            case yd => exact fun w' hS => hS
          (try simp only [Act.put, List.setIfInBounds_toArray, List.set_cons_zero, List.set_cons_succ, List.getElem_toArray, List.getElem_cons_zero, List.getElem_cons_succ])
          refine wpAnyH_ready (rs := [3, 5]) (by kernel_rfl) (by simp) ?_
          refine AllReadyH.cons rfl (fun K hK => ?_) (AllReadyH.cons rfl (fun K hK => ?_) AllReadyH.nil)
          · go_simp
            refine hK.out _ _ ?_ (fun hHeld => ?_)
            · exact r0
            clear hK K
            (try simp only [Act.put, List.setIfInBounds_toArray, List.set_cons_zero, List.set_cons_succ, List.getElem_toArray, List.getElem_cons_zero, List.getElem_cons_succ])
            refine wpAnyH_ready (rs := [5]) (by kernel_rfl) (by simp) ?_
            refine AllReadyH.cons rfl (fun K hK => ?_) AllReadyH.nil
            refine step_build_one rfl 33 97 (.tmp 70) rfl x rfl i0 _ 5 Tryz.underlying33 hI0 hz0 hz1 HXL.out (by decide) (by decide) ?_
            refine hK.out _ _ ?_ (fun hHeld => ?_)
            · exact HRA.out
            clear hK K
            (try simp only [Act.put, List.setIfInBounds_toArray, List.set_cons_zero, List.set_cons_succ, List.getElem_toArray, List.getElem_cons_zero, List.getElem_cons_succ])
            refine wpAnyH_ready (rs := [6]) (by kernel_rfl) (by simp) ?_
            refine AllReadyH.cons rfl (fun K hK => ?_) AllReadyH.nil
            refine step_append_lies _ rfl (.tmp 69) (.tmp 71) 33 rfl w.heap.size 97 i0 _ 5 64 Tryz.underlying33 hI0 hz0 hz1 hz2 rfl (by decide) (.slice A i c) i rows.flatten rfl HRO.out ⟨wE.heap.size, 0, none⟩ 1 1 x rfl (by rw [HXL.out]) (World.news_of_block (cs := x.toArray) (t := 97) (fr := (0, 0)) (heap_alloc_new wE _)) HX1.out (by decide) (by unfold maxLen; omega) (by omega) HBA.out (wE.heap.size + 1) HSZ.out ?_
            intro gg cap w1 hown1 hgrow hat hlt1
            have HOW := Aside0.mk (And.intro hown1 (And.intro hgrow (And.intro hat hlt1)))
            have g1 : w1.rangeAt XB 0 x := fun q v hv => by
              rw [HOW.out.2.1.cell_far _ (Nat.lt_of_lt_of_le hxlt HWB.out.size) (Ne.symm hnx)]
              exact HRA.out q v hv
            have g2 : w1.frozen? ⟨hb, j, none⟩ = false := by
              rw [HOW.out.2.1.frozen_far _ (Nat.lt_of_lt_of_le hhlt HWB.out.size) (Ne.symm hnh)]
              exact HFA.out
            have g3 : w1.cell? ⟨hb, j, none⟩ = some (.slice A i c) := by
              rw [HOW.out.2.1.cell_far _ (Nat.lt_of_lt_of_le hhlt HWB.out.size) (Ne.symm hnh)]
              exact HCA.out
            clear hown1 hgrow hat
            refine hK.out _ _ ?_ (fun hHeld => ?_)
            · exact g1
            clear hK K
            (try simp only [Act.put, List.setIfInBounds_toArray, List.set_cons_zero, List.set_cons_succ, List.getElem_toArray, List.getElem_cons_zero, List.getElem_cons_succ])
            refine' wpAnyH_take (i := 7) (v := _) rfl (by kernel_rfl) (by kernel_rfl) (by kernel_rfl) (fun _ _ _ h => h) ?hy5 (by assumption) ?rs5
            case hy5 => exact .inl ⟨by rfl, by intro w' hSw; go_simp; (try with_reducible rfl)⟩
            (try simp only [Act.put, List.setIfInBounds_toArray, List.set_cons_zero, List.set_cons_succ, List.getElem_toArray, List.getElem_cons_zero, List.getElem_cons_succ])
            refine wpAnyH_ready (rs := [8]) (by kernel_rfl) (by simp) ?_
            refine AllReadyH.cons rfl (fun K hK => ?_) AllReadyH.nil
            go_simp
            refine hK.out _ _ ?_ (fun hHeld => ?_)
            · exact fun q v hv => by rw [World.cell?_of_block (Below.heap_setCell w1 ⟨hb, j, none⟩ _ XB hxh)]; exact g1 q v hv
            clear hK K
            (try simp only [Act.put, List.setIfInBounds_toArray, List.set_cons_zero, List.set_cons_succ, List.getElem_toArray, List.getElem_cons_zero, List.getElem_cons_succ])
            refine wpAnyH_done (by kernel_rfl) ?_ _
            go_wp2
            go_roundw
            case rel =>
              have hgg : (Value.slice (some ⟨gg, 0, none⟩) (i + 1) cap).ownBlock ≠ some hb := by
                intro e
                have e' : gg = hb := by simpa [Value.ownBlock] using e
                rcases HOW.out.2.2.1 with q | q
                · exact hnh (by rw [q, e'])
                · omega
              refine ⟨i + 1, st', rows ++ [x], .slice (some ⟨gg, 0, none⟩) (i + 1) cap, by omega, by simp [HRL.out], by go_num, HDL, ⟨.inr htb⟩, HNX, ⟨?_⟩⟩
              have hr' := HRL.out
              subst hr'
              exact (LRd.push (st' := st') rfl HNE.out.2 (by decide) (Rw.below HE.out.1 HWB.out) (HE.out.2.2.1.keep (HWB.out.block hb hhlt)) HRO.out (HE.out.2.2.2.2.trans (Fr.of_below HWB.out) fun i hi => .inl hi) HOW.out.1 HOW.out.2.1 HNE.out.1 hgg)
            case measure => simp [intOf]; omega
          · refine step_build_one rfl 33 97 (.tmp 70) rfl x rfl i0 _ 5 Tryz.underlying33 hI0 hz0 hz1 HXL.out (by decide) (by decide) ?_
            refine hK.out _ _ ?_ (fun hHeld => ?_)
            · exact HRA.out
            clear hK K
            (try simp only [Act.put, List.setIfInBounds_toArray, List.set_cons_zero, List.set_cons_succ, List.getElem_toArray, List.getElem_cons_zero, List.getElem_cons_succ])
            have k0 := HCA.out
            refine wpAnyH_ready (rs := [3]) (by kernel_rfl) (by simp) ?_
            refine AllReadyH.cons rfl (fun K hK => ?_) AllReadyH.nil
            go_simp
            refine hK.out _ _ ?_ (fun hHeld => ?_)
            · exact HRA.out
            clear hK K
            (try simp only [Act.put, List.setIfInBounds_toArray, List.set_cons_zero, List.set_cons_succ, List.getElem_toArray, List.getElem_cons_zero, List.getElem_cons_succ])
            refine wpAnyH_ready (rs := [6]) (by kernel_rfl) (by simp) ?_
            refine AllReadyH.cons rfl (fun K hK => ?_) AllReadyH.nil
            refine step_append_lies _ rfl (.tmp 69) (.tmp 71) 33 rfl w.heap.size 97 i0 _ 5 64 Tryz.underlying33 hI0 hz0 hz1 hz2 rfl (by decide) (.slice A i c) i rows.flatten rfl HRO.out ⟨wE.heap.size, 0, none⟩ 1 1 x rfl (by rw [HXL.out]) (World.news_of_block (cs := x.toArray) (t := 97) (fr := (0, 0)) (heap_alloc_new wE _)) HX1.out (by decide) (by unfold maxLen; omega) (by omega) HBA.out (wE.heap.size + 1) HSZ.out ?_
            intro gg cap w1 hown1 hgrow hat hlt1
            have HOW := Aside0.mk (And.intro hown1 (And.intro hgrow (And.intro hat hlt1)))
            have g1 : w1.rangeAt XB 0 x := fun q v hv => by
              rw [HOW.out.2.1.cell_far _ (Nat.lt_of_lt_of_le hxlt HWB.out.size) (Ne.symm hnx)]
              exact HRA.out q v hv
            have g2 : w1.frozen? ⟨hb, j, none⟩ = false := by
              rw [HOW.out.2.1.frozen_far _ (Nat.lt_of_lt_of_le hhlt HWB.out.size) (Ne.symm hnh)]
              exact HFA.out
            have g3 : w1.cell? ⟨hb, j, none⟩ = some (.slice A i c) := by
              rw [HOW.out.2.1.cell_far _ (Nat.lt_of_lt_of_le hhlt HWB.out.size) (Ne.symm hnh)]
              exact HCA.out
            clear hown1 hgrow hat
            refine hK.out _ _ ?_ (fun hHeld => ?_)
            · exact g1
            clear hK K
            (try simp only [Act.put, List.setIfInBounds_toArray, List.set_cons_zero, List.set_cons_succ, List.getElem_toArray, List.getElem_cons_zero, List.getElem_cons_succ])
            refine' wpAnyH_take (i := 7) (v := _) rfl (by kernel_rfl) (by kernel_rfl) (by kernel_rfl) (fun _ _ _ h => h) ?hy6 (by assumption) ?rs6
            case hy6 => exact .inl ⟨by rfl, by intro w' hSw; go_simp; (try with_reducible rfl)⟩
            (try simp only [Act.put, List.setIfInBounds_toArray, List.set_cons_zero, List.set_cons_succ, List.getElem_toArray, List.getElem_cons_zero, List.getElem_cons_succ])
            refine wpAnyH_ready (rs := [8]) (by kernel_rfl) (by simp) ?_
            refine AllReadyH.cons rfl (fun K hK => ?_) AllReadyH.nil
            go_simp
            refine hK.out _ _ ?_ (fun hHeld => ?_)
            · exact fun q v hv => by rw [World.cell?_of_block (Below.heap_setCell w1 ⟨hb, j, none⟩ _ XB hxh)]; exact g1 q v hv
            clear hK K
            (try simp only [Act.put, List.setIfInBounds_toArray, List.set_cons_zero, List.set_cons_succ, List.getElem_toArray, List.getElem_cons_zero, List.getElem_cons_succ])
            refine wpAnyH_done (by kernel_rfl) ?_ _
            go_wp2
            go_roundw
            case rel =>
              have hgg : (Value.slice (some ⟨gg, 0, none⟩) (i + 1) cap).ownBlock ≠ some hb := by
                intro e
                have e' : gg = hb := by simpa [Value.ownBlock] using e
                rcases HOW.out.2.2.1 with q | q
                · exact hnh (by rw [q, e'])
                · omega
              refine ⟨i + 1, st', rows ++ [x], .slice (some ⟨gg, 0, none⟩) (i + 1) cap, by omega, by simp [HRL.out], by go_num, HDL, ⟨.inr htb⟩, HNX, ⟨?_⟩⟩
              have hr' := HRL.out
              subst hr'
              exact (LRd.push (st' := st') rfl HNE.out.2 (by decide) (Rw.below HE.out.1 HWB.out) (HE.out.2.2.1.keep (HWB.out.block hb hhlt)) HRO.out (HE.out.2.2.2.2.trans (Fr.of_below HWB.out) fun i hi => .inl hi) HOW.out.1 HOW.out.2.1 HNE.out.1 hgg)
            case measure => simp [intOf]; omega
        · obtain rfl : i = tn := by omega
          have HFN : Aside0 (rdList ks_sent s = (st, rows)) := ⟨by
            rw [HG.out, HRE.out, Nat.sub_self]
            simp [rdRows]⟩
          go_wp2
          go_end0
          refine ⟨rfl, .slice A i c, ?_⟩
          rw [HFN.out]
          exact HI.out
/-! ### list: counted -/
def ks_counted : List K := [.t, .t, .t, .n, .n]
theorem sc_counted_all : sc_counted = scOf 0 ks_counted := by rfl
theorem size_counted : (Tryz.prog.info? 100).map (·.size) = some 5 := by kernel_rfl
theorem info_counted : (Tryz.prog.info? 100).map (fun i => (i.zero, i.size, i.bytes)) = some (some (.agg #[.string ⟨#[]⟩, .string ⟨#[]⟩, .string ⟨#[]⟩, .int .i64 0, .int .i64 0]), 5, 64) := by kernel_rfl
set_option maxHeartbeats 8000000 in
set_option maxRecDepth 100000 in
theorem list_counted_w {B wb bb hb j c : Nat} {A : Option Addr} {bs : List UInt8} {rows : List (List Value)} {w : World} (h : Wr B wb bb bs w) (hc : w.cell? ⟨hb, j, none⟩ = some (.slice A rows.length c)) (hst : Stay B bb w hb) (hr : RowsAt B bb w A 5 rows)
    (hf : ∀ x ∈ rows, Fits ks_counted x) (hn : rows.length ≤ c) (hn2 : rows.length ≤ 100000000) (hl : bs.length + (encRows rows).length ≤ 140737488355328) :
    Calls Tryz.prog 83 #[.pointer (some ⟨wb, 0, none⟩), .pointer (some ⟨hb, j, none⟩), .func (.func 84) #[] #[]] w (Writ B wb bb (bs ++ encRows rows) w) := by
  obtain ⟨n, hnn⟩ : ∃ n, n = rows.length := ⟨_, rfl⟩
  rw [← hnn] at hc hn hn2
  have HN := Aside0.mk hnn
  have H := Aside0.mk h
  have HST := Aside0.mk hst
  have HR := Aside0.mk hr
  have HF := Aside0.mk hf
  have HL : Aside0 (bs.length + (digits n).length + (rows.flatMap encs).length ≤ 140737488355328) := ⟨by unfold encRows at hl; rw [List.length_append, ← hnn] at hl; omega⟩
  have hwc := h.out
  have HC := Aside0.mk hc
  clear h hst hr hf hl hnn
  go_enter Tryz.func83, Tryz.ntmps83
  go_upto_region 1 with (fail)
  go_region_held3 (fun w' => w'.cell? ⟨wb, 0, none⟩ = some (.pointer (some ⟨bb, 0, none⟩)) ∧ w'.cell? ⟨hb, j, none⟩ = some (.slice A n c)) (first | (go_split_ands; assumption) | (refine ⟨?_, ?_⟩ <;> assumption) | go_keep) (first
    | (go_at_call 94; refine (put_any n (by omega) _ _ (by simp)).mono ?_; rintro e wB ⟨rfl, hk⟩; have hk' : Below w.heap.size w wB := ((alloc_below w _).trans (⟨hk.os, hk.tape, hk.output, hk.size, fun i hi => hk.block i (by simp; omega)⟩ : Below w.heap.size (w.alloc _) wB)); have HB : Aside0 (Wr B wb bb bs wB ∧ Wk B bb w wB) := ⟨H.out.below hk', Wk.of_below H.out.le hk'⟩; clear hk hk'; have g0 := HB.out.1.out; have g1 : wB.cell? ⟨hb, j, none⟩ = some (.slice A n c) := by rw [Stay.cell HST.out HB.out.2]; exact HC.out)
    | (go_at_call 93; refine (HB.out.1.write (digits n) (by have := HL.out; omega)).mono ?_; rintro e wC ⟨⟨z', rfl⟩, hk1, hk2⟩; have HCC : Aside0 (Wr B wb bb (bs ++ digits n) wC ∧ Wk B bb w wC) := ⟨hk1, HB.out.2.trans hk2⟩; clear hk1 hk2; have k0 := HCC.out.1.out; have k1 : wC.cell? ⟨hb, j, none⟩ = some (.slice A n c) := by rw [Stay.cell HST.out HCC.out.2]; exact HC.out)
    | fail)
  go_wp2_with (fail)
  go_loopw [31] (fun v31 wr => ∃ i : Nat, i ≤ n ∧ v31 = .int .i64 i ∧ Aside0 (Wr B wb bb (bs ++ digits n ++ (rows.take i).flatMap encs) wr ∧ Wk B bb w wr)) (fun v31 _ => n - (intOf v31).toNat)
  case atStart => exact ⟨0, by omega, rfl, ⟨by simpa using HCC.out.1, HCC.out.2⟩⟩
  case round =>
    obtain ⟨i, hi, rfl, HI⟩ := hrel
    clear g0 g1 k0 k1 HB HCC
    by_cases hlt : i < n
    · have hil : i < rows.length := by have := HN.out; omega
      obtain ⟨x, hx⟩ : ∃ x, rows[i]? = some x := ⟨_, List.getElem?_eq_getElem hil⟩
      have hxf := HF.out x (List.mem_of_getElem? hx)
      obtain ⟨ad, rfl, hsa, hca⟩ := (HR.out.next HI.out.2).at_ (by omega)
      have hcx := hca i x hx
      have hxl : x.length = 5 := fits_len hxf
      have HE : Aside0 ((rows.take (i + 1)).flatMap encs = (rows.take i).flatMap encs ++ encs x) := ⟨rows_take rows i x hx⟩
      have HLX : Aside0 ((bs ++ digits n ++ (rows.take i).flatMap encs).length + (encs x).length ≤ 140737488355328) := ⟨by
        have h1 := HL.out
        have h2 := rows_le rows (i + 1)
        rw [HE.out, List.length_append] at h2
        simp only [List.length_append]; omega⟩
      have HXF := Aside0.mk hxf
      have HXL := Aside0.mk hxl
      have HCX : Aside0 (∀ m v, x[m]? = some v → wr.cell? ((ad.add (i * 5)).add m) = some v) := ⟨fun m v hv => by rw [add_of_add]; exact hcx m v hv⟩
      have HX1 : Aside0 (x.toArray.all (·.oneCell') = true) := ⟨all_oneCell_toArray (fits_one hxf)⟩
      clear hx hxf hsa hca hcx hxl
      go_wp2_with (first
        | ((with_reducible refine wpList_load_at (op := ⟨some 34, _, _, _, _, _⟩) ?a1 100 (.tmp 33) ?a2 (ad.add (i * 5)) ?a3 x _ HCX.out Tryz.underlying100 ?a4 ?a5 ?a6); (case a1 => rfl); (case a2 => rfl); (case a3 => rfl); (case a4 => rfl); (case a5 => (rw [size_counted, HXL.out])))
        | ((with_reducible refine wpList_store_new (op := ⟨none, Op.store _ (.tmp 7) (.tmp 34), _, _, _, _⟩) ?b1 100 (.tmp 7) (.tmp 34) ?b2 #[.string ⟨#[]⟩, .string ⟨#[]⟩, .string ⟨#[]⟩, .int .i64 0, .int .i64 0] x.toArray ?b3 ?b4 ?b5 ?b6 HX1.out ?b7); (case b1 => rfl); (case b2 => rfl); (case b3 => rfl); (case b4 => rfl); (case b5 => (rw [size_counted]; simp [HXL.out])); (case b6 => simp [HXL.out])))
      have HWX : Aside0 (Wr B wb bb (bs ++ digits n ++ (rows.take i).flatMap encs) (wr.alloc (.cells x.toArray 100)) ∧ Cs wr.heap.size 100 x (wr.alloc (.cells x.toArray 100))) := ⟨HI.out.1.below (alloc_below _ _), cs_alloc _ _ _ _ rfl⟩
      have HEX : Aside0 (encAt sc_counted x = encs x ∧ OkAt sc_counted x) := ⟨by rw [sc_counted_all]; exact ⟨enc_all _ _ (by rw [HXL.out]; rfl), ok_all _ _ HXF.out⟩⟩
      refine (counted_w HWX.out.1 HWX.out.2 (by decide) (by decide) HEX.out.2 (by rw [HEX.out.1]; exact HLX.out)).mono ?_
      rintro e wE ⟨rfl, p1, p2⟩
      have HEE : Aside0 (Wr B wb bb (bs ++ digits n ++ (rows.take (i + 1)).flatMap encs) wE ∧ Wk B bb w wE) := ⟨by rw [HE.out, ← List.append_assoc, ← HEX.out.1]; exact p1, HI.out.2.trans ((Wk.of_below HI.out.1.le (alloc_below _ _)).trans p2)⟩
      clear p1 p2
      go_wp2
      go_roundw
      case rel => exact ⟨i + 1, by omega, by go_num, HEE⟩
      case measure => simp [intOf]; omega
    · obtain rfl : i = n := by omega
      have HFL : Aside0 (rows.take i = rows) := ⟨List.take_of_length_le (by have := HN.out; omega)⟩
      go_wp2
      go_end0
      have := HI.out
      rw [HFL.out] at this
      refine ⟨rfl, ?_, this.2⟩
      unfold encRows
      rw [← HN.out, ← List.append_assoc]
      exact this.1
theorem zeros_counted : (#[.string ⟨#[]⟩, .string ⟨#[]⟩, .string ⟨#[]⟩, .int .i64 0, .int .i64 0] : Array Value) = (ks_counted.map zeroV).toArray := rfl
set_option maxHeartbeats 8000000 in
set_option maxRecDepth 100000 in
theorem list_counted_r {wb hb j : Nat} {s : Rd} {HT : TypeId} {hcs : List Value} {w : World} (h : Rw wb s w) (hh : Cs hb HT hcs w) (hj : hcs[j]? = some (.slice none 0 0)) (hne : hb ≠ wb) (hHT : HT ≠ 100) (hl : s.D.length ≤ 100000000) :
    Calls Tryz.prog 83 #[.pointer (some ⟨wb, 0, none⟩), .pointer (some ⟨hb, j, none⟩), .func (.func 84) #[] #[]] w (ListRd wb hb j HT 100 5 hcs (rdList ks_counted s) w) := by
  obtain ⟨i0, hI0, hz0, hz1, hz2⟩ := infoParts info_counted
  obtain ⟨tn, htn⟩ : ∃ tn, tn = (takeN s).1 := ⟨_, rfl⟩
  obtain ⟨s1, hs1⟩ : ∃ s1, s1 = (takeN s).2 := ⟨_, rfl⟩
  obtain ⟨s2, hs2⟩ : ∃ s2, s2 = (counted s).2 := ⟨_, rfl⟩
  have ctk := take_r h (by omega)
  rw [← htn, ← hs1] at ctk
  have htl : tn < 9223372036854775808 := by rw [htn]; exact take_lt s
  have hsl : s1.D.length ≤ 100000000 := by rw [hs1]; exact Nat.le_trans (take_len s) hl
  have hjl : j < hcs.length := (List.getElem?_eq_some_iff.1 hj).1
  have HG : Aside0 (rdList ks_counted s = rdRows ks_counted tn s2) := ⟨by unfold rdList; rw [hs2, htn]; rfl⟩
  have HE2 : Aside0 (s2 = if s1.D.length < tn then s1.fail else s1) := ⟨by rw [hs2, hs1, htn]; rfl⟩
  have hwc := h.cells.1
  have HH := Aside0.mk (And.intro hh hj)
  have HNE := Aside0.mk (And.intro hne hHT)
  have HHT := Aside0.mk (show hb < w.heap.size ∧ wb < w.heap.size from ⟨hh.lt, Cs.lt h⟩)
  clear h hh hj hHT htn hs1 hs2
  go_enter Tryz.func83, Tryz.ntmps83
  go_wp2_with (fail)
  refine ctk.mono ?_
  rintro e wA ⟨rfl, p1, p2⟩
  have HA : Aside0 (Rw wb s1 wA ∧ Cs hb HT hcs wA ∧ Fr (fun i => i = wb ∨ i = hb) w wA) := ⟨p1, HH.out.1.keep (p2.block hb HH.out.1.lt hne), ⟨p2.os, p2.tape, p2.output, p2.size, fun i hi hn => p2.block i hi fun q => hn (.inl q)⟩⟩
  clear p1 p2 ctk
  obtain ⟨a0, a1, a2, af⟩ := HA.out.1.cells
  obtain ⟨D1, hD1⟩ : ∃ D1 : ByteArray, D1 = ⟨s1.D.toArray⟩ := ⟨_, rfl⟩
  have hD1s : D1.size = s1.D.length := by rw [hD1, size_mk]
  rw [← hD1] at a1
  have HDS := Aside0.mk hD1s
  clear hD1 hD1s
  have hbd : s2.bad = true ∨ tn ≤ 100000000 := by
    rw [HE2.out]
    by_cases hgt : s1.D.length < tn
    · rw [if_pos hgt]; exact .inl rfl
    · right; omega
  have HBD := Aside0.mk hbd
  clear hbd
  go_upto_if 47 with (fail)
  go_cut [] (fun wx => LRd wb hb j HT 100 5 hcs w.heap.size (s2, []) (.slice none 0 0) w wx)
  case first =>
    have hset : hcs.set j (.slice none 0 0) = hcs := by
      apply List.ext_getElem?
      intro q
      rw [List.getElem?_set]
      split
      · rename_i hq
        subst hq
        exact HH.out.2.symm
      · rfl
    have HSET := Aside0.mk hset
    clear hset
    by_cases hgt : s1.D.length < tn
    · have hgt' : (D1.size : Int) < (tn : Int) := by have := HDS.out; omega
      have HGT := Aside0.mk hgt
      clear hgt
      go_wp2
      go_meet
      refine ⟨?_, ?_, World.ownsRow_nil _ _ _ _, HA.out.2.2.set _ _ (.inl (.inl rfl))⟩
      · show Rw wb s2 _
        rw [HE2.out, if_pos HGT.out]
        exact HA.out.1.isBad
      · rw [HSET.out]
        exact Cs.other HA.out.2.1 _ _ (Ne.symm hne)
    · have hgt' : ¬(D1.size : Int) < (tn : Int) := by have := HDS.out; omega
      have HGT := Aside0.mk hgt
      clear hgt
      go_wp2
      go_meet
      refine ⟨?_, ?_, World.ownsRow_nil _ _ _ _, HA.out.2.2⟩
      · show Rw wb s2 _
        rw [HE2.out, if_neg HGT.out]
        exact HA.out.1
      · rw [HSET.out]
        exact HA.out.2.1
  case rest =>
    have HX := Aside0.mk hcut
    clear hcut a0 a1 a2 af HA hwc
    go_wp2_with (fail)
    go_loopw [9] (fun v9 wr => ∃ (i : Nat) (st : Rd) (rows : List (List Value)) (v : Value), i ≤ tn ∧ rows.length = i ∧ v9 = .int .i64 i ∧ Aside0 (st.D.length ≤ 100000000) ∧ Aside0 (st.bad = true ∨ tn ≤ 100000000) ∧ Aside0 (rdRows ks_counted tn s2 = ((rdRows ks_counted (tn - i) st).1, rows ++ (rdRows ks_counted (tn - i) st).2)) ∧ Aside0 (LRd wb hb j HT 100 5 hcs w.heap.size (st, rows) v w wr)) (fun v9 _ => tn - (intOf v9).toNat)
    case atStart => exact ⟨0, s2, [], _, by omega, rfl, rfl, ⟨by rw [HE2.out]; split <;> exact hsl⟩, HBD, ⟨by simp⟩, HX⟩
    case round =>
      obtain ⟨i, st, rows, v, hi, hrl, rfl, HSL, HBT, HRE, HI⟩ := hrel
      clear HX HBD
      obtain ⟨A, c, rfl⟩ : ∃ A c, v = .slice A i c := by rw [← hrl]; exact own_shape HI.out.row
      have HRL := Aside0.mk hrl
      clear hrl
      obtain ⟨b0, b1, b2, bf⟩ := HI.out.rw.cells
      obtain ⟨qb, hbad⟩ : ∃ q, q = st.bad := ⟨_, rfl⟩
      rw [show (st, rows).1.bad = qb from hbad.symm] at b2
      have HBB := Aside0.mk hbad
      clear hbad
      cases qb with
      | true =>
        have HFN : Aside0 (rdList ks_counted s = (st, rows)) := ⟨by
          rw [HG.out, HRE.out]
          rw [rows_done _ _ st HBB.out.symm]
          simp⟩
        by_cases hlt : i < tn
        all_goals
          go_wp2
          go_end0
          refine ⟨rfl, .slice A i c, ?_⟩
          rw [HFN.out]
          exact HI.out
      | false =>
        by_cases hlt : i < tn
        · have htb : tn ≤ 100000000 := HBT.out.resolve_left (by rw [← HBB.out]; simp)
          have HNX : Aside0 (rdRows ks_counted tn s2 = ((rdRows ks_counted (tn - (i + 1)) (rds ks_counted st (ks_counted.map zeroV)).1).1, (rows ++ [(rds ks_counted st (ks_counted.map zeroV)).2]) ++ (rdRows ks_counted (tn - (i + 1)) (rds ks_counted st (ks_counted.map zeroV)).1).2)) := ⟨by
            rw [HRE.out, show tn - i = (tn - (i + 1)) + 1 from by omega]
            rw [rows_more _ _ st HBB.out.symm]
            simp⟩
          have HFX : Aside0 (Fits ks_counted (rds ks_counted st (ks_counted.map zeroV)).2) := ⟨fits_rds _ _ _ (fits_zero _)⟩
          have HDL : Aside0 ((rds ks_counted st (ks_counted.map zeroV)).1.D.length ≤ 100000000) := ⟨by
            rw [← rd_all _ _ _ (by simp)]
            exact Nat.le_trans (rdAt_len _ _).1 HSL.out⟩
          have HRD : Aside0 (rdAt sc_counted (st, ks_counted.map zeroV) = rds ks_counted st (ks_counted.map zeroV)) := ⟨by rw [sc_counted_all]; exact rd_all _ _ _ (by simp)⟩
          obtain ⟨p, hp⟩ : ∃ p, p = rds ks_counted st (ks_counted.map zeroV) := ⟨_, rfl⟩
          rw [← hp] at HNX HFX HRD HDL
          clear hp HRE
          obtain ⟨st', x⟩ := p
          simp only at HNX HFX HDL
          have hlw := Cs.lt HI.out.rw
          have hlh := HI.out.cs.lt
          go_wp2_with (fail)
          have HZ : Aside0 (Rw wb st (wr.alloc (.cells #[.string ⟨#[]⟩, .string ⟨#[]⟩, .string ⟨#[]⟩, .int .i64 0, .int .i64 0] 100)) ∧ Cs wr.heap.size 100 (ks_counted.map zeroV) (wr.alloc (.cells #[.string ⟨#[]⟩, .string ⟨#[]⟩, .string ⟨#[]⟩, .int .i64 0, .int .i64 0] 100))) := ⟨Rw.below HI.out.rw (alloc_below _ _), cs_alloc _ _ _ _ zeros_counted⟩
          have HSC : Aside0 (∀ y ∈ sc_counted, y.2 < (ks_counted.map zeroV).length) := ⟨by decide⟩
          refine (counted_r HZ.out.1 HZ.out.2 (by omega) HSC.out (Nat.le_trans HSL.out (by decide))).mono ?_
          rintro e wE ⟨rfl, p1, p2, p3⟩
          rw [HRD.out] at p1 p2
          simp only at p1 p2
          have HE : Aside0 (Rw wb st' wE ∧ Cs wr.heap.size 100 x wE ∧ Cs hb HT (hcs.set j (.slice A i c)) wE ∧ wE.ownsRow w.heap.size 100 5 (.slice A i c) rows.length rows.flatten ∧ Fr (fun i => i = wb ∨ i = hb) w wE) := ⟨by
            have q1 : ∀ b, b < wr.heap.size → b ≠ wb → wE.heap[b]? = wr.heap[b]? := fun b hb' hbw => (p3.block b (by simp; omega) (by rintro (q | q) <;> omega)).trans ((alloc_below wr _).block b hb')
            refine ⟨p1, p2, HI.out.cs.keep (q1 hb hlh hne), own_same HI.out.row fun g hg => q1 g (HI.out.row.lt g hg).2 (fun q => own_ne HI.out.row HI.out.rw (by decide) (by rw [hg, q])), (HI.out.fr.trans (Fr.of_below (alloc_below wr _)) fun i hi => .inl hi).trans p3 fun i hi => ?_⟩
            rcases hi with rfl | rfl
            · exact .inl (.inl rfl)
            · exact .inr HI.out.fr.size⟩
          have hxl : x.length = 5 := fits_len HFX.out
          have HX1 : Aside0 (∀ v ∈ x, v.oneCell' = true) := ⟨fits_one HFX.out⟩
          clear p1 p2 p3 HZ
          have c0 : wE.cell? ⟨hb, j, none⟩ = some (.slice A i c) := by rw [HE.out.2.2.1.cell, List.getElem?_set_self hjl]
          have f0 : wE.frozen? ⟨hb, j, none⟩ = false := HE.out.2.2.1.frozen j
          have hXB : Aside0 (∀ g, (Value.slice A i c).ownBlock = some g → g < wr.heap.size) := ⟨fun g hg => (HI.out.row.lt g hg).2⟩
          have hnh : (Value.slice A i c).ownBlock ≠ some hb := own_ne HE.out.2.2.2.1 HE.out.2.2.1 (Ne.symm HNE.out.2)
          obtain ⟨XB, hxb⟩ : ∃ XB, XB = wr.heap.size := ⟨_, rfl⟩
          rw [← hxb]
          rw [← hxb] at HE hXB
          have hnx : (Value.slice A i c).ownBlock ≠ some XB := fun e => by have := hXB.out XB e; omega
          have r0 : wE.rangeAt XB 0 x := fun q v hv => by rw [Nat.zero_add, HE.out.2.1.cell]; exact hv
          have hxlt := HE.out.2.1.lt
          have hhlt := HE.out.2.2.1.lt
          have hwlt := Cs.lt HE.out.1
          have hu := Tryz.underlying100
          have hi' : (Tryz.prog.info? 100).map (·.size) = some x.length := by rw [size_counted, hxl]
          have HXL := Aside0.mk hxl
          have HBS : Aside0 (w.heap.size ≤ wE.heap.size) := ⟨HE.out.2.2.2.2.size⟩
          have HXH : Aside0 (hb < XB) := ⟨by rw [hxb]; exact hlh⟩
          clear hxb hxl HI
          go_upto_region 15 with (fail)
          obtain ⟨WA, hWA⟩ : ∃ WA, WA = wE.drew.alloc (.cells x.toArray 100) := ⟨_, rfl⟩
          have HWB : Aside0 (Below wE.heap.size wE WA) := ⟨by rw [hWA]; have b := alloc_below wE (.cells x.toArray 100); exact ⟨b.os, b.tape, b.output, b.size, b.block⟩⟩
          have HRO : Aside0 (WA.ownsRow w.heap.size 100 5 (.slice A i c) i rows.flatten) := ⟨by have := HE.out.2.2.2.1.drew.alloc (.cells x.toArray 100); rw [HRL.out] at this; rw [hWA]; exact this⟩
          have HSZ : Aside0 (WA.heap.size = wE.heap.size + 1) := ⟨by rw [hWA]; simp⟩
          have HBA : Aside0 (w.heap.size ≤ WA.heap.size) := ⟨by have := HSZ.out; have := HBS.out; omega⟩
          have HRA : Aside0 (WA.rangeAt XB 0 x) := ⟨fun q v hv => by rw [World.cell?_of_block (HWB.out.block XB hxlt)]; exact r0 q v hv⟩
          have HFA : Aside0 (WA.frozen? ⟨hb, j, none⟩ = false) := ⟨by rw [World.frozen?_of_block (HWB.out.block hb hhlt)]; exact f0⟩
          have HCA : Aside0 (WA.cell? ⟨hb, j, none⟩ = some (.slice A i c)) := ⟨by rw [World.cell?_of_block (HWB.out.block hb hhlt)]; exact c0⟩
          have hxh : XB ≠ hb := fun e => by have := HXH.out; omega
          subst hWA
          refine wp_region_held_drew (S := (fun w' => w'.rangeAt XB 0 x)) (by kernel_rfl) ?_ (fun hHeld => ?_)
          · exact r0
          refine' wpAnyH_take (i := 0) (v := _) rfl (by kernel_rfl) (by kernel_rfl) (by kernel_rfl) (fun _ _ _ h => h) ?hy1 (by assumption) ?rs1
          case hy1 => exact .inl ⟨by rfl, by intro w' hSw; go_simp; (try with_reducible rfl)⟩
          (try simp only [Act.put, List.setIfInBounds_toArray, List.set_cons_zero, List.set_cons_succ, List.getElem_toArray, List.getElem_cons_zero, List.getElem_cons_succ])
          refine' wpAnyH_take (i := 1) (v := _) rfl (by kernel_rfl) (by kernel_rfl) (by kernel_rfl) (fun _ _ _ h => h) ?hy2 (by assumption) ?rs2
          case hy2 => exact .inl ⟨by rfl, by intro w' hSw; go_simp; (try with_reducible rfl)⟩
          (try simp only [Act.put, List.setIfInBounds_toArray, List.set_cons_zero, List.set_cons_succ, List.getElem_toArray, List.getElem_cons_zero, List.getElem_cons_succ])
          refine' wpAnyH_take (i := 2) (v := _) rfl (by kernel_rfl) (by kernel_rfl) (by kernel_rfl) (fun _ _ _ h => h) ?hy3 (by assumption) ?rs3
          case hy3 => exact .inl ⟨by rfl, by intro w' hSw; go_simp; (try with_reducible rfl)⟩
          (try simp only [Act.put, List.setIfInBounds_toArray, List.set_cons_zero, List.set_cons_succ, List.getElem_toArray, List.getElem_cons_zero, List.getElem_cons_succ])
          refine' wpAnyH_take (i := 4) (v := _) rfl (by kernel_rfl) (by kernel_rfl) (by kernel_rfl) (fun _ _ _ h => h) ?hy4 (by assumption) ?rs4
          case hy4 =>
            refine yieldsIf_load_mid ?ya 100 (.tmp 10) ?yb XB 0 ?yc x _ ?yd hu rfl hi'
            case ya => rfl
            case yb => rfl
            case yc => rfl
            case yd => exact fun w' hS => hS
          (try simp only [Act.put, List.setIfInBounds_toArray, List.set_cons_zero, List.set_cons_succ, List.getElem_toArray, List.getElem_cons_zero, List.getElem_cons_succ])
          refine wpAnyH_ready (rs := [3, 5]) (by kernel_rfl) (by simp) ?_
          refine AllReadyH.cons rfl (fun K hK => ?_) (AllReadyH.cons rfl (fun K hK => ?_) AllReadyH.nil)
          · go_simp
            refine hK.out _ _ ?_ (fun hHeld => ?_)
            · exact r0
            clear hK K
            (try simp only [Act.put, List.setIfInBounds_toArray, List.set_cons_zero, List.set_cons_succ, List.getElem_toArray, List.getElem_cons_zero, List.getElem_cons_succ])
            refine wpAnyH_ready (rs := [5]) (by kernel_rfl) (by simp) ?_
            refine AllReadyH.cons rfl (fun K hK => ?_) AllReadyH.nil
            refine step_build_one rfl 34 100 (.tmp 70) rfl x rfl i0 _ 5 Tryz.underlying34 hI0 hz0 hz1 HXL.out (by decide) (by decide) ?_
            refine hK.out _ _ ?_ (fun hHeld => ?_)
            · exact HRA.out
            clear hK K
            (try simp only [Act.put, List.setIfInBounds_toArray, List.set_cons_zero, List.set_cons_succ, List.getElem_toArray, List.getElem_cons_zero, List.getElem_cons_succ])
            refine wpAnyH_ready (rs := [6]) (by kernel_rfl) (by simp) ?_
            refine AllReadyH.cons rfl (fun K hK => ?_) AllReadyH.nil
            refine step_append_lies _ rfl (.tmp 69) (.tmp 71) 34 rfl w.heap.size 100 i0 _ 5 64 Tryz.underlying34 hI0 hz0 hz1 hz2 rfl (by decide) (.slice A i c) i rows.flatten rfl HRO.out ⟨wE.heap.size, 0, none⟩ 1 1 x rfl (by rw [HXL.out]) (World.news_of_block (cs := x.toArray) (t := 100) (fr := (0, 0)) (heap_alloc_new wE _)) HX1.out (by decide) (by unfold maxLen; omega) (by omega) HBA.out (wE.heap.size + 1) HSZ.out ?_
            intro gg cap w1 hown1 hgrow hat hlt1
            have HOW := Aside0.mk (And.intro hown1 (And.intro hgrow (And.intro hat hlt1)))
            have g1 : w1.rangeAt XB 0 x := fun q v hv => by
              rw [HOW.out.2.1.cell_far _ (Nat.lt_of_lt_of_le hxlt HWB.out.size) (Ne.symm hnx)]
              exact HRA.out q v hv
            have g2 : w1.frozen? ⟨hb, j, none⟩ = false := by
              rw [HOW.out.2.1.frozen_far _ (Nat.lt_of_lt_of_le hhlt HWB.out.size) (Ne.symm hnh)]
              exact HFA.out
            have g3 : w1.cell? ⟨hb, j, none⟩ = some (.slice A i c) := by
              rw [HOW.out.2.1.cell_far _ (Nat.lt_of_lt_of_le hhlt HWB.out.size) (Ne.symm hnh)]
              exact HCA.out
            clear hown1 hgrow hat
            refine hK.out _ _ ?_ (fun hHeld => ?_)
            · exact g1
            clear hK K
            (try simp only [Act.put, List.setIfInBounds_toArray, List.set_cons_zero, List.set_cons_succ, List.getElem_toArray, List.getElem_cons_zero, List.getElem_cons_succ])
            refine' wpAnyH_take (i := 7) (v := _) rfl (by kernel_rfl) (by kernel_rfl) (by kernel_rfl) (fun _ _ _ h => h) ?hy5 (by assumption) ?rs5
            case hy5 => exact .inl ⟨by rfl, by intro w' hSw; go_simp; (try with_reducible rfl)⟩
            (try simp only [Act.put, List.setIfInBounds_toArray, List.set_cons_zero, List.set_cons_succ, List.getElem_toArray, List.getElem_cons_zero, List.getElem_cons_succ])
            refine wpAnyH_ready (rs := [8]) (by kernel_rfl) (by simp) ?_
            refine AllReadyH.cons rfl (fun K hK => ?_) AllReadyH.nil
            go_simp
            refine hK.out _ _ ?_ (fun hHeld => ?_)
            · exact fun q v hv => by rw [World.cell?_of_block (Below.heap_setCell w1 ⟨hb, j, none⟩ _ XB hxh)]; exact g1 q v hv
            clear hK K
            (try simp only [Act.put, List.setIfInBounds_toArray, List.set_cons_zero, List.set_cons_succ, List.getElem_toArray, List.getElem_cons_zero, List.getElem_cons_succ])
            refine wpAnyH_done (by kernel_rfl) ?_ _
            go_wp2
            go_roundw
            case rel =>
              have hgg : (Value.slice (some ⟨gg, 0, none⟩) (i + 1) cap).ownBlock ≠ some hb := by
                intro e
                have e' : gg = hb := by simpa [Value.ownBlock] using e
                rcases HOW.out.2.2.1 with q | q
                · exact hnh (by rw [q, e'])
                · omega
              refine ⟨i + 1, st', rows ++ [x], .slice (some ⟨gg, 0, none⟩) (i + 1) cap, by omega, by simp [HRL.out], by go_num, HDL, ⟨.inr htb⟩, HNX, ⟨?_⟩⟩
              have hr' := HRL.out
              subst hr'
              exact (LRd.push (st' := st') rfl HNE.out.2 (by decide) (Rw.below HE.out.1 HWB.out) (HE.out.2.2.1.keep (HWB.out.block hb hhlt)) HRO.out (HE.out.2.2.2.2.trans (Fr.of_below HWB.out) fun i hi => .inl hi) HOW.out.1 HOW.out.2.1 HNE.out.1 hgg)
            case measure => simp [intOf]; omega
          · refine step_build_one rfl 34 100 (.tmp 70) rfl x rfl i0 _ 5 Tryz.underlying34 hI0 hz0 hz1 HXL.out (by decide) (by decide) ?_
            refine hK.out _ _ ?_ (fun hHeld => ?_)
            · exact HRA.out
            clear hK K
            (try simp only [Act.put, List.setIfInBounds_toArray, List.set_cons_zero, List.set_cons_succ, List.getElem_toArray, List.getElem_cons_zero, List.getElem_cons_succ])
            have k0 := HCA.out
            refine wpAnyH_ready (rs := [3]) (by kernel_rfl) (by simp) ?_
            refine AllReadyH.cons rfl (fun K hK => ?_) AllReadyH.nil
            go_simp
            refine hK.out _ _ ?_ (fun hHeld => ?_)
            · exact HRA.out
            clear hK K
            (try simp only [Act.put, List.setIfInBounds_toArray, List.set_cons_zero, List.set_cons_succ, List.getElem_toArray, List.getElem_cons_zero, List.getElem_cons_succ])
            refine wpAnyH_ready (rs := [6]) (by kernel_rfl) (by simp) ?_
            refine AllReadyH.cons rfl (fun K hK => ?_) AllReadyH.nil
            refine step_append_lies _ rfl (.tmp 69) (.tmp 71) 34 rfl w.heap.size 100 i0 _ 5 64 Tryz.underlying34 hI0 hz0 hz1 hz2 rfl (by decide) (.slice A i c) i rows.flatten rfl HRO.out ⟨wE.heap.size, 0, none⟩ 1 1 x rfl (by rw [HXL.out]) (World.news_of_block (cs := x.toArray) (t := 100) (fr := (0, 0)) (heap_alloc_new wE _)) HX1.out (by decide) (by unfold maxLen; omega) (by omega) HBA.out (wE.heap.size + 1) HSZ.out ?_
            intro gg cap w1 hown1 hgrow hat hlt1
            have HOW := Aside0.mk (And.intro hown1 (And.intro hgrow (And.intro hat hlt1)))
            have g1 : w1.rangeAt XB 0 x := fun q v hv => by
              rw [HOW.out.2.1.cell_far _ (Nat.lt_of_lt_of_le hxlt HWB.out.size) (Ne.symm hnx)]
              exact HRA.out q v hv
            have g2 : w1.frozen? ⟨hb, j, none⟩ = false := by
              rw [HOW.out.2.1.frozen_far _ (Nat.lt_of_lt_of_le hhlt HWB.out.size) (Ne.symm hnh)]
              exact HFA.out
            have g3 : w1.cell? ⟨hb, j, none⟩ = some (.slice A i c) := by
              rw [HOW.out.2.1.cell_far _ (Nat.lt_of_lt_of_le hhlt HWB.out.size) (Ne.symm hnh)]
              exact HCA.out
            clear hown1 hgrow hat
            refine hK.out _ _ ?_ (fun hHeld => ?_)
            · exact g1
            clear hK K
            (try simp only [Act.put, List.setIfInBounds_toArray, List.set_cons_zero, List.set_cons_succ, List.getElem_toArray, List.getElem_cons_zero, List.getElem_cons_succ])
            refine' wpAnyH_take (i := 7) (v := _) rfl (by kernel_rfl) (by kernel_rfl) (by kernel_rfl) (fun _ _ _ h => h) ?hy6 (by assumption) ?rs6
            case hy6 => exact .inl ⟨by rfl, by intro w' hSw; go_simp; (try with_reducible rfl)⟩
            (try simp only [Act.put, List.setIfInBounds_toArray, List.set_cons_zero, List.set_cons_succ, List.getElem_toArray, List.getElem_cons_zero, List.getElem_cons_succ])
            refine wpAnyH_ready (rs := [8]) (by kernel_rfl) (by simp) ?_
            refine AllReadyH.cons rfl (fun K hK => ?_) AllReadyH.nil
            go_simp
            refine hK.out _ _ ?_ (fun hHeld => ?_)
            · exact fun q v hv => by rw [World.cell?_of_block (Below.heap_setCell w1 ⟨hb, j, none⟩ _ XB hxh)]; exact g1 q v hv
            clear hK K
            (try simp only [Act.put, List.setIfInBounds_toArray, List.set_cons_zero, List.set_cons_succ, List.getElem_toArray, List.getElem_cons_zero, List.getElem_cons_succ])
            refine wpAnyH_done (by kernel_rfl) ?_ _
            go_wp2
            go_roundw
            case rel =>
              have hgg : (Value.slice (some ⟨gg, 0, none⟩) (i + 1) cap).ownBlock ≠ some hb := by
                intro e
                have e' : gg = hb := by simpa [Value.ownBlock] using e
                rcases HOW.out.2.2.1 with q | q
                · exact hnh (by rw [q, e'])
                · omega
              refine ⟨i + 1, st', rows ++ [x], .slice (some ⟨gg, 0, none⟩) (i + 1) cap, by omega, by simp [HRL.out], by go_num, HDL, ⟨.inr htb⟩, HNX, ⟨?_⟩⟩
              have hr' := HRL.out
              subst hr'
              exact (LRd.push (st' := st') rfl HNE.out.2 (by decide) (Rw.below HE.out.1 HWB.out) (HE.out.2.2.1.keep (HWB.out.block hb hhlt)) HRO.out (HE.out.2.2.2.2.trans (Fr.of_below HWB.out) fun i hi => .inl hi) HOW.out.1 HOW.out.2.1 HNE.out.1 hgg)
            case measure => simp [intOf]; omega
        · obtain rfl : i = tn := by omega
          have HFN : Aside0 (rdList ks_counted s = (st, rows)) := ⟨by
            rw [HG.out, HRE.out, Nat.sub_self]
            simp [rdRows]⟩
          go_wp2
          go_end0
          refine ⟨rfl, .slice A i c, ?_⟩
          rw [HFN.out]
          exact HI.out
/-! ### list: total -/
def ks_total : List K := [.t, .t, .n, .n, .n, .n]
theorem sc_total_all : sc_total = scOf 0 ks_total := by rfl
theorem size_total : (Tryz.prog.info? 103).map (·.size) = some 6 := by kernel_rfl
theorem info_total : (Tryz.prog.info? 103).map (fun i => (i.zero, i.size, i.bytes)) = some (some (.agg #[.string ⟨#[]⟩, .string ⟨#[]⟩, .int .i64 0, .int .i64 0, .int .i64 0, .int .i64 0]), 6, 64) := by kernel_rfl
set_option maxHeartbeats 8000000 in
set_option maxRecDepth 100000 in
theorem list_total_w {B wb bb hb j c : Nat} {A : Option Addr} {bs : List UInt8} {rows : List (List Value)} {w : World} (h : Wr B wb bb bs w) (hc : w.cell? ⟨hb, j, none⟩ = some (.slice A rows.length c)) (hst : Stay B bb w hb) (hr : RowsAt B bb w A 6 rows)
    (hf : ∀ x ∈ rows, Fits ks_total x) (hn : rows.length ≤ c) (hn2 : rows.length ≤ 100000000) (hl : bs.length + (encRows rows).length ≤ 140737488355328) :
    Calls Tryz.prog 85 #[.pointer (some ⟨wb, 0, none⟩), .pointer (some ⟨hb, j, none⟩), .func (.func 86) #[] #[]] w (Writ B wb bb (bs ++ encRows rows) w) := by
  obtain ⟨n, hnn⟩ : ∃ n, n = rows.length := ⟨_, rfl⟩
  rw [← hnn] at hc hn hn2
  have HN := Aside0.mk hnn
  have H := Aside0.mk h
  have HST := Aside0.mk hst
  have HR := Aside0.mk hr
  have HF := Aside0.mk hf
  have HL : Aside0 (bs.length + (digits n).length + (rows.flatMap encs).length ≤ 140737488355328) := ⟨by unfold encRows at hl; rw [List.length_append, ← hnn] at hl; omega⟩
  have hwc := h.out
  have HC := Aside0.mk hc
  clear h hst hr hf hl hnn
  go_enter Tryz.func85, Tryz.ntmps85
  go_upto_region 1 with (fail)
  go_region_held3 (fun w' => w'.cell? ⟨wb, 0, none⟩ = some (.pointer (some ⟨bb, 0, none⟩)) ∧ w'.cell? ⟨hb, j, none⟩ = some (.slice A n c)) (first | (go_split_ands; assumption) | (refine ⟨?_, ?_⟩ <;> assumption) | go_keep) (first
    | (go_at_call 94; refine (put_any n (by omega) _ _ (by simp)).mono ?_; rintro e wB ⟨rfl, hk⟩; have hk' : Below w.heap.size w wB := ((alloc_below w _).trans (⟨hk.os, hk.tape, hk.output, hk.size, fun i hi => hk.block i (by simp; omega)⟩ : Below w.heap.size (w.alloc _) wB)); have HB : Aside0 (Wr B wb bb bs wB ∧ Wk B bb w wB) := ⟨H.out.below hk', Wk.of_below H.out.le hk'⟩; clear hk hk'; have g0 := HB.out.1.out; have g1 : wB.cell? ⟨hb, j, none⟩ = some (.slice A n c) := by rw [Stay.cell HST.out HB.out.2]; exact HC.out)
    | (go_at_call 93; refine (HB.out.1.write (digits n) (by have := HL.out; omega)).mono ?_; rintro e wC ⟨⟨z', rfl⟩, hk1, hk2⟩; have HCC : Aside0 (Wr B wb bb (bs ++ digits n) wC ∧ Wk B bb w wC) := ⟨hk1, HB.out.2.trans hk2⟩; clear hk1 hk2; have k0 := HCC.out.1.out; have k1 : wC.cell? ⟨hb, j, none⟩ = some (.slice A n c) := by rw [Stay.cell HST.out HCC.out.2]; exact HC.out)
    | fail)
  go_wp2_with (fail)
  go_loopw [31] (fun v31 wr => ∃ i : Nat, i ≤ n ∧ v31 = .int .i64 i ∧ Aside0 (Wr B wb bb (bs ++ digits n ++ (rows.take i).flatMap encs) wr ∧ Wk B bb w wr)) (fun v31 _ => n - (intOf v31).toNat)
  case atStart => exact ⟨0, by omega, rfl, ⟨by simpa using HCC.out.1, HCC.out.2⟩⟩
  case round =>
    obtain ⟨i, hi, rfl, HI⟩ := hrel
    clear g0 g1 k0 k1 HB HCC
    by_cases hlt : i < n
    · have hil : i < rows.length := by have := HN.out; omega
      obtain ⟨x, hx⟩ : ∃ x, rows[i]? = some x := ⟨_, List.getElem?_eq_getElem hil⟩
      have hxf := HF.out x (List.mem_of_getElem? hx)
      obtain ⟨ad, rfl, hsa, hca⟩ := (HR.out.next HI.out.2).at_ (by omega)
      have hcx := hca i x hx
      have hxl : x.length = 6 := fits_len hxf
      have HE : Aside0 ((rows.take (i + 1)).flatMap encs = (rows.take i).flatMap encs ++ encs x) := ⟨rows_take rows i x hx⟩
      have HLX : Aside0 ((bs ++ digits n ++ (rows.take i).flatMap encs).length + (encs x).length ≤ 140737488355328) := ⟨by
        have h1 := HL.out
        have h2 := rows_le rows (i + 1)
        rw [HE.out, List.length_append] at h2
        simp only [List.length_append]; omega⟩
      have HXF := Aside0.mk hxf
      have HXL := Aside0.mk hxl
      have HCX : Aside0 (∀ m v, x[m]? = some v → wr.cell? ((ad.add (i * 6)).add m) = some v) := ⟨fun m v hv => by rw [add_of_add]; exact hcx m v hv⟩
      have HX1 : Aside0 (x.toArray.all (·.oneCell') = true) := ⟨all_oneCell_toArray (fits_one hxf)⟩
      clear hx hxf hsa hca hcx hxl
      go_wp2_with (first
        | ((with_reducible refine wpList_load_at (op := ⟨some 34, _, _, _, _, _⟩) ?a1 103 (.tmp 33) ?a2 (ad.add (i * 6)) ?a3 x _ HCX.out Tryz.underlying103 ?a4 ?a5 ?a6); (case a1 => rfl); (case a2 => rfl); (case a3 => rfl); (case a4 => rfl); (case a5 => (rw [size_total, HXL.out])))
        | ((with_reducible refine wpList_store_new (op := ⟨none, Op.store _ (.tmp 7) (.tmp 34), _, _, _, _⟩) ?b1 103 (.tmp 7) (.tmp 34) ?b2 #[.string ⟨#[]⟩, .string ⟨#[]⟩, .int .i64 0, .int .i64 0, .int .i64 0, .int .i64 0] x.toArray ?b3 ?b4 ?b5 ?b6 HX1.out ?b7); (case b1 => rfl); (case b2 => rfl); (case b3 => rfl); (case b4 => rfl); (case b5 => (rw [size_total]; simp [HXL.out])); (case b6 => simp [HXL.out])))
      have HWX : Aside0 (Wr B wb bb (bs ++ digits n ++ (rows.take i).flatMap encs) (wr.alloc (.cells x.toArray 103)) ∧ Cs wr.heap.size 103 x (wr.alloc (.cells x.toArray 103))) := ⟨HI.out.1.below (alloc_below _ _), cs_alloc _ _ _ _ rfl⟩
      have HEX : Aside0 (encAt sc_total x = encs x ∧ OkAt sc_total x) := ⟨by rw [sc_total_all]; exact ⟨enc_all _ _ (by rw [HXL.out]; rfl), ok_all _ _ HXF.out⟩⟩
      refine (total_w HWX.out.1 HWX.out.2 (by decide) (by decide) HEX.out.2 (by rw [HEX.out.1]; exact HLX.out)).mono ?_
      rintro e wE ⟨rfl, p1, p2⟩
      have HEE : Aside0 (Wr B wb bb (bs ++ digits n ++ (rows.take (i + 1)).flatMap encs) wE ∧ Wk B bb w wE) := ⟨by rw [HE.out, ← List.append_assoc, ← HEX.out.1]; exact p1, HI.out.2.trans ((Wk.of_below HI.out.1.le (alloc_below _ _)).trans p2)⟩
      clear p1 p2
      go_wp2
      go_roundw
      case rel => exact ⟨i + 1, by omega, by go_num, HEE⟩
      case measure => simp [intOf]; omega
    · obtain rfl : i = n := by omega
      have HFL : Aside0 (rows.take i = rows) := ⟨List.take_of_length_le (by have := HN.out; omega)⟩
      go_wp2
      go_end0
      have := HI.out
      rw [HFL.out] at this
      refine ⟨rfl, ?_, this.2⟩
      unfold encRows
      rw [← HN.out, ← List.append_assoc]
      exact this.1
theorem zeros_total : (#[.string ⟨#[]⟩, .string ⟨#[]⟩, .int .i64 0, .int .i64 0, .int .i64 0, .int .i64 0] : Array Value) = (ks_total.map zeroV).toArray := rfl
set_option maxHeartbeats 8000000 in
set_option maxRecDepth 100000 in
theorem list_total_r {wb hb j : Nat} {s : Rd} {HT : TypeId} {hcs : List Value} {w : World} (h : Rw wb s w) (hh : Cs hb HT hcs w) (hj : hcs[j]? = some (.slice none 0 0)) (hne : hb ≠ wb) (hHT : HT ≠ 103) (hl : s.D.length ≤ 100000000) :
    Calls Tryz.prog 85 #[.pointer (some ⟨wb, 0, none⟩), .pointer (some ⟨hb, j, none⟩), .func (.func 86) #[] #[]] w (ListRd wb hb j HT 103 6 hcs (rdList ks_total s) w) := by
  obtain ⟨i0, hI0, hz0, hz1, hz2⟩ := infoParts info_total
  obtain ⟨tn, htn⟩ : ∃ tn, tn = (takeN s).1 := ⟨_, rfl⟩
  obtain ⟨s1, hs1⟩ : ∃ s1, s1 = (takeN s).2 := ⟨_, rfl⟩
  obtain ⟨s2, hs2⟩ : ∃ s2, s2 = (counted s).2 := ⟨_, rfl⟩
  have ctk := take_r h (by omega)
  rw [← htn, ← hs1] at ctk
  have htl : tn < 9223372036854775808 := by rw [htn]; exact take_lt s
  have hsl : s1.D.length ≤ 100000000 := by rw [hs1]; exact Nat.le_trans (take_len s) hl
  have hjl : j < hcs.length := (List.getElem?_eq_some_iff.1 hj).1
  have HG : Aside0 (rdList ks_total s = rdRows ks_total tn s2) := ⟨by unfold rdList; rw [hs2, htn]; rfl⟩
  have HE2 : Aside0 (s2 = if s1.D.length < tn then s1.fail else s1) := ⟨by rw [hs2, hs1, htn]; rfl⟩
  have hwc := h.cells.1
  have HH := Aside0.mk (And.intro hh hj)
  have HNE := Aside0.mk (And.intro hne hHT)
  have HHT := Aside0.mk (show hb < w.heap.size ∧ wb < w.heap.size from ⟨hh.lt, Cs.lt h⟩)
  clear h hh hj hHT htn hs1 hs2
  go_enter Tryz.func85, Tryz.ntmps85
  go_wp2_with (fail)
  refine ctk.mono ?_
  rintro e wA ⟨rfl, p1, p2⟩
  have HA : Aside0 (Rw wb s1 wA ∧ Cs hb HT hcs wA ∧ Fr (fun i => i = wb ∨ i = hb) w wA) := ⟨p1, HH.out.1.keep (p2.block hb HH.out.1.lt hne), ⟨p2.os, p2.tape, p2.output, p2.size, fun i hi hn => p2.block i hi fun q => hn (.inl q)⟩⟩
  clear p1 p2 ctk
  obtain ⟨a0, a1, a2, af⟩ := HA.out.1.cells
  obtain ⟨D1, hD1⟩ : ∃ D1 : ByteArray, D1 = ⟨s1.D.toArray⟩ := ⟨_, rfl⟩
  have hD1s : D1.size = s1.D.length := by rw [hD1, size_mk]
  rw [← hD1] at a1
  have HDS := Aside0.mk hD1s
  clear hD1 hD1s
  have hbd : s2.bad = true ∨ tn ≤ 100000000 := by
    rw [HE2.out]
    by_cases hgt : s1.D.length < tn
    · rw [if_pos hgt]; exact .inl rfl
    · right; omega
  have HBD := Aside0.mk hbd
  clear hbd
  go_upto_if 47 with (fail)
  go_cut [] (fun wx => LRd wb hb j HT 103 6 hcs w.heap.size (s2, []) (.slice none 0 0) w wx)
  case first =>
    have hset : hcs.set j (.slice none 0 0) = hcs := by
      apply List.ext_getElem?
      intro q
      rw [List.getElem?_set]
      split
      · rename_i hq
        subst hq
        exact HH.out.2.symm
      · rfl
    have HSET := Aside0.mk hset
    clear hset
    by_cases hgt : s1.D.length < tn
    · have hgt' : (D1.size : Int) < (tn : Int) := by have := HDS.out; omega
      have HGT := Aside0.mk hgt
      clear hgt
      go_wp2
      go_meet
      refine ⟨?_, ?_, World.ownsRow_nil _ _ _ _, HA.out.2.2.set _ _ (.inl (.inl rfl))⟩
      · show Rw wb s2 _
        rw [HE2.out, if_pos HGT.out]
        exact HA.out.1.isBad
      · rw [HSET.out]
        exact Cs.other HA.out.2.1 _ _ (Ne.symm hne)
    · have hgt' : ¬(D1.size : Int) < (tn : Int) := by have := HDS.out; omega
      have HGT := Aside0.mk hgt
      clear hgt
      go_wp2
      go_meet
      refine ⟨?_, ?_, World.ownsRow_nil _ _ _ _, HA.out.2.2⟩
      · show Rw wb s2 _
        rw [HE2.out, if_neg HGT.out]
        exact HA.out.1
      · rw [HSET.out]
        exact HA.out.2.1
  case rest =>
    have HX := Aside0.mk hcut
    clear hcut a0 a1 a2 af HA hwc
    go_wp2_with (fail)
    go_loopw [9] (fun v9 wr => ∃ (i : Nat) (st : Rd) (rows : List (List Value)) (v : Value), i ≤ tn ∧ rows.length = i ∧ v9 = .int .i64 i ∧ Aside0 (st.D.length ≤ 100000000) ∧ Aside0 (st.bad = true ∨ tn ≤ 100000000) ∧ Aside0 (rdRows ks_total tn s2 = ((rdRows ks_total (tn - i) st).1, rows ++ (rdRows ks_total (tn - i) st).2)) ∧ Aside0 (LRd wb hb j HT 103 6 hcs w.heap.size (st, rows) v w wr)) (fun v9 _ => tn - (intOf v9).toNat)
    case atStart => exact ⟨0, s2, [], _, by omega, rfl, rfl, ⟨by rw [HE2.out]; split <;> exact hsl⟩, HBD, ⟨by simp⟩, HX⟩
    case round =>
      obtain ⟨i, st, rows, v, hi, hrl, rfl, HSL, HBT, HRE, HI⟩ := hrel
      clear HX HBD
      obtain ⟨A, c, rfl⟩ : ∃ A c, v = .slice A i c := by rw [← hrl]; exact own_shape HI.out.row
      have HRL := Aside0.mk hrl
      clear hrl
      obtain ⟨b0, b1, b2, bf⟩ := HI.out.rw.cells
      obtain ⟨qb, hbad⟩ : ∃ q, q = st.bad := ⟨_, rfl⟩
      rw [show (st, rows).1.bad = qb from hbad.symm] at b2
      have HBB := Aside0.mk hbad
      clear hbad
      cases qb with
      | true =>
        have HFN : Aside0 (rdList ks_total s = (st, rows)) := ⟨by
          rw [HG.out, HRE.out]
          rw [rows_done _ _ st HBB.out.symm]
          simp⟩
        by_cases hlt : i < tn
        all_goals
          go_wp2
          go_end0
          refine ⟨rfl, .slice A i c, ?_⟩
          rw [HFN.out]
          exact HI.out
      | false =>
        by_cases hlt : i < tn
        · have htb : tn ≤ 100000000 := HBT.out.resolve_left (by rw [← HBB.out]; simp)
          have HNX : Aside0 (rdRows ks_total tn s2 = ((rdRows ks_total (tn - (i + 1)) (rds ks_total st (ks_total.map zeroV)).1).1, (rows ++ [(rds ks_total st (ks_total.map zeroV)).2]) ++ (rdRows ks_total (tn - (i + 1)) (rds ks_total st (ks_total.map zeroV)).1).2)) := ⟨by
            rw [HRE.out, show tn - i = (tn - (i + 1)) + 1 from by omega]
            rw [rows_more _ _ st HBB.out.symm]
            simp⟩
          have HFX : Aside0 (Fits ks_total (rds ks_total st (ks_total.map zeroV)).2) := ⟨fits_rds _ _ _ (fits_zero _)⟩
          have HDL : Aside0 ((rds ks_total st (ks_total.map zeroV)).1.D.length ≤ 100000000) := ⟨by
            rw [← rd_all _ _ _ (by simp)]
            exact Nat.le_trans (rdAt_len _ _).1 HSL.out⟩
          have HRD : Aside0 (rdAt sc_total (st, ks_total.map zeroV) = rds ks_total st (ks_total.map zeroV)) := ⟨by rw [sc_total_all]; exact rd_all _ _ _ (by simp)⟩
          obtain ⟨p, hp⟩ : ∃ p, p = rds ks_total st (ks_total.map zeroV) := ⟨_, rfl⟩
          rw [← hp] at HNX HFX HRD HDL
          clear hp HRE
          obtain ⟨st', x⟩ := p
          simp only at HNX HFX HDL
          have hlw := Cs.lt HI.out.rw
          have hlh := HI.out.cs.lt
          go_wp2_with (fail)
          have HZ : Aside0 (Rw wb st (wr.alloc (.cells #[.string ⟨#[]⟩, .string ⟨#[]⟩, .int .i64 0, .int .i64 0, .int .i64 0, .int .i64 0] 103)) ∧ Cs wr.heap.size 103 (ks_total.map zeroV) (wr.alloc (.cells #[.string ⟨#[]⟩, .string ⟨#[]⟩, .int .i64 0, .int .i64 0, .int .i64 0, .int .i64 0] 103))) := ⟨Rw.below HI.out.rw (alloc_below _ _), cs_alloc _ _ _ _ zeros_total⟩
          have HSC : Aside0 (∀ y ∈ sc_total, y.2 < (ks_total.map zeroV).length) := ⟨by decide⟩
          refine (total_r HZ.out.1 HZ.out.2 (by omega) HSC.out (Nat.le_trans HSL.out (by decide))).mono ?_
          rintro e wE ⟨rfl, p1, p2, p3⟩
          rw [HRD.out] at p1 p2
          simp only at p1 p2
          have HE : Aside0 (Rw wb st' wE ∧ Cs wr.heap.size 103 x wE ∧ Cs hb HT (hcs.set j (.slice A i c)) wE ∧ wE.ownsRow w.heap.size 103 6 (.slice A i c) rows.length rows.flatten ∧ Fr (fun i => i = wb ∨ i = hb) w wE) := ⟨by
            have q1 : ∀ b, b < wr.heap.size → b ≠ wb → wE.heap[b]? = wr.heap[b]? := fun b hb' hbw => (p3.block b (by simp; omega) (by rintro (q | q) <;> omega)).trans ((alloc_below wr _).block b hb')
            refine ⟨p1, p2, HI.out.cs.keep (q1 hb hlh hne), own_same HI.out.row fun g hg => q1 g (HI.out.row.lt g hg).2 (fun q => own_ne HI.out.row HI.out.rw (by decide) (by rw [hg, q])), (HI.out.fr.trans (Fr.of_below (alloc_below wr _)) fun i hi => .inl hi).trans p3 fun i hi => ?_⟩
            rcases hi with rfl | rfl
            · exact .inl (.inl rfl)
            · exact .inr HI.out.fr.size⟩
          have hxl : x.length = 6 := fits_len HFX.out
          have HX1 : Aside0 (∀ v ∈ x, v.oneCell' = true) := ⟨fits_one HFX.out⟩
          clear p1 p2 p3 HZ
          have c0 : wE.cell? ⟨hb, j, none⟩ = some (.slice A i c) := by rw [HE.out.2.2.1.cell, List.getElem?_set_self hjl]
          have f0 : wE.frozen? ⟨hb, j, none⟩ = false := HE.out.2.2.1.frozen j
          have hXB : Aside0 (∀ g, (Value.slice A i c).ownBlock = some g → g < wr.heap.size) := ⟨fun g hg => (HI.out.row.lt g hg).2⟩
          have hnh : (Value.slice A i c).ownBlock ≠ some hb := own_ne HE.out.2.2.2.1 HE.out.2.2.1 (Ne.symm HNE.out.2)
          obtain ⟨XB, hxb⟩ : ∃ XB, XB = wr.heap.size := ⟨_, rfl⟩
          rw [← hxb]
          rw [← hxb] at HE hXB
          have hnx : (Value.slice A i c).ownBlock ≠ some XB := fun e => by have := hXB.out XB e; omega
          have r0 : wE.rangeAt XB 0 x := fun q v hv => by rw [Nat.zero_add, HE.out.2.1.cell]; exact hv
          have hxlt := HE.out.2.1.lt
          have hhlt := HE.out.2.2.1.lt
          have hwlt := Cs.lt HE.out.1
          have hu := Tryz.underlying103
          have hi' : (Tryz.prog.info? 103).map (·.size) = some x.length := by rw [size_total, hxl]
          have HXL := Aside0.mk hxl
          have HBS : Aside0 (w.heap.size ≤ wE.heap.size) := ⟨HE.out.2.2.2.2.size⟩
          have HXH : Aside0 (hb < XB) := ⟨by rw [hxb]; exact hlh⟩
          clear hxb hxl HI
          go_upto_region 15 with (fail)
          obtain ⟨WA, hWA⟩ : ∃ WA, WA = wE.drew.alloc (.cells x.toArray 103) := ⟨_, rfl⟩
          have HWB : Aside0 (Below wE.heap.size wE WA) := ⟨by rw [hWA]; have b := alloc_below wE (.cells x.toArray 103); exact ⟨b.os, b.tape, b.output, b.size, b.block⟩⟩
          have HRO : Aside0 (WA.ownsRow w.heap.size 103 6 (.slice A i c) i rows.flatten) := ⟨by have := HE.out.2.2.2.1.drew.alloc (.cells x.toArray 103); rw [HRL.out] at this; rw [hWA]; exact this⟩
          have HSZ : Aside0 (WA.heap.size = wE.heap.size + 1) := ⟨by rw [hWA]; simp⟩
          have HBA : Aside0 (w.heap.size ≤ WA.heap.size) := ⟨by have := HSZ.out; have := HBS.out; omega⟩
          have HRA : Aside0 (WA.rangeAt XB 0 x) := ⟨fun q v hv => by rw [World.cell?_of_block (HWB.out.block XB hxlt)]; exact r0 q v hv⟩
          have HFA : Aside0 (WA.frozen? ⟨hb, j, none⟩ = false) := ⟨by rw [World.frozen?_of_block (HWB.out.block hb hhlt)]; exact f0⟩
          have HCA : Aside0 (WA.cell? ⟨hb, j, none⟩ = some (.slice A i c)) := ⟨by rw [World.cell?_of_block (HWB.out.block hb hhlt)]; exact c0⟩
          have hxh : XB ≠ hb := fun e => by have := HXH.out; omega
          subst hWA
          refine wp_region_held_drew (S := (fun w' => w'.rangeAt XB 0 x)) (by kernel_rfl) ?_ (fun hHeld => ?_)
          · exact r0
          refine' wpAnyH_take (i := 0) (v := _) rfl (by kernel_rfl) (by kernel_rfl) (by kernel_rfl) (fun _ _ _ h => h) ?hy1 (by assumption) ?rs1
          case hy1 => exact .inl ⟨by rfl, by intro w' hSw; go_simp; (try with_reducible rfl)⟩
          (try simp only [Act.put, List.setIfInBounds_toArray, List.set_cons_zero, List.set_cons_succ, List.getElem_toArray, List.getElem_cons_zero, List.getElem_cons_succ])
          refine' wpAnyH_take (i := 1) (v := _) rfl (by kernel_rfl) (by kernel_rfl) (by kernel_rfl) (fun _ _ _ h => h) ?hy2 (by assumption) ?rs2
          case hy2 => exact .inl ⟨by rfl, by intro w' hSw; go_simp; (try with_reducible rfl)⟩
          (try simp only [Act.put, List.setIfInBounds_toArray, List.set_cons_zero, List.set_cons_succ, List.getElem_toArray, List.getElem_cons_zero, List.getElem_cons_succ])
          refine' wpAnyH_take (i := 2) (v := _) rfl (by kernel_rfl) (by kernel_rfl) (by kernel_rfl) (fun _ _ _ h => h) ?hy3 (by assumption) ?rs3
          case hy3 => exact .inl ⟨by rfl, by intro w' hSw; go_simp; (try with_reducible rfl)⟩
          (try simp only [Act.put, List.setIfInBounds_toArray, List.set_cons_zero, List.set_cons_succ, List.getElem_toArray, List.getElem_cons_zero, List.getElem_cons_succ])
          refine' wpAnyH_take (i := 4) (v := _) rfl (by kernel_rfl) (by kernel_rfl) (by kernel_rfl) (fun _ _ _ h => h) ?hy4 (by assumption) ?rs4
          case hy4 =>
            refine yieldsIf_load_mid ?ya 103 (.tmp 10) ?yb XB 0 ?yc x _ ?yd hu rfl hi'
            case ya => rfl
            case yb => rfl
            case yc => rfl
            case yd => exact fun w' hS => hS
          (try simp only [Act.put, List.setIfInBounds_toArray, List.set_cons_zero, List.set_cons_succ, List.getElem_toArray, List.getElem_cons_zero, List.getElem_cons_succ])
          refine wpAnyH_ready (rs := [3, 5]) (by kernel_rfl) (by simp) ?_
          refine AllReadyH.cons rfl (fun K hK => ?_) (AllReadyH.cons rfl (fun K hK => ?_) AllReadyH.nil)
          · go_simp
            refine hK.out _ _ ?_ (fun hHeld => ?_)
            · exact r0
            clear hK K
            (try simp only [Act.put, List.setIfInBounds_toArray, List.set_cons_zero, List.set_cons_succ, List.getElem_toArray, List.getElem_cons_zero, List.getElem_cons_succ])
            refine wpAnyH_ready (rs := [5]) (by kernel_rfl) (by simp) ?_
            refine AllReadyH.cons rfl (fun K hK => ?_) AllReadyH.nil
            refine step_build_one rfl 35 103 (.tmp 70) rfl x rfl i0 _ 6 Tryz.underlying35 hI0 hz0 hz1 HXL.out (by decide) (by decide) ?_
            refine hK.out _ _ ?_ (fun hHeld => ?_)
            · exact HRA.out
            clear hK K
            (try simp only [Act.put, List.setIfInBounds_toArray, List.set_cons_zero, List.set_cons_succ, List.getElem_toArray, List.getElem_cons_zero, List.getElem_cons_succ])
            refine wpAnyH_ready (rs := [6]) (by kernel_rfl) (by simp) ?_
            refine AllReadyH.cons rfl (fun K hK => ?_) AllReadyH.nil
            refine step_append_lies _ rfl (.tmp 69) (.tmp 71) 35 rfl w.heap.size 103 i0 _ 6 64 Tryz.underlying35 hI0 hz0 hz1 hz2 rfl (by decide) (.slice A i c) i rows.flatten rfl HRO.out ⟨wE.heap.size, 0, none⟩ 1 1 x rfl (by rw [HXL.out]) (World.news_of_block (cs := x.toArray) (t := 103) (fr := (0, 0)) (heap_alloc_new wE _)) HX1.out (by decide) (by unfold maxLen; omega) (by omega) HBA.out (wE.heap.size + 1) HSZ.out ?_
            intro gg cap w1 hown1 hgrow hat hlt1
            have HOW := Aside0.mk (And.intro hown1 (And.intro hgrow (And.intro hat hlt1)))
            have g1 : w1.rangeAt XB 0 x := fun q v hv => by
              rw [HOW.out.2.1.cell_far _ (Nat.lt_of_lt_of_le hxlt HWB.out.size) (Ne.symm hnx)]
              exact HRA.out q v hv
            have g2 : w1.frozen? ⟨hb, j, none⟩ = false := by
              rw [HOW.out.2.1.frozen_far _ (Nat.lt_of_lt_of_le hhlt HWB.out.size) (Ne.symm hnh)]
              exact HFA.out
            have g3 : w1.cell? ⟨hb, j, none⟩ = some (.slice A i c) := by
              rw [HOW.out.2.1.cell_far _ (Nat.lt_of_lt_of_le hhlt HWB.out.size) (Ne.symm hnh)]
              exact HCA.out
            clear hown1 hgrow hat
            refine hK.out _ _ ?_ (fun hHeld => ?_)
            · exact g1
            clear hK K
            (try simp only [Act.put, List.setIfInBounds_toArray, List.set_cons_zero, List.set_cons_succ, List.getElem_toArray, List.getElem_cons_zero, List.getElem_cons_succ])
            refine' wpAnyH_take (i := 7) (v := _) rfl (by kernel_rfl) (by kernel_rfl) (by kernel_rfl) (fun _ _ _ h => h) ?hy5 (by assumption) ?rs5
            case hy5 => exact .inl ⟨by rfl, by intro w' hSw; go_simp; (try with_reducible rfl)⟩
            (try simp only [Act.put, List.setIfInBounds_toArray, List.set_cons_zero, List.set_cons_succ, List.getElem_toArray, List.getElem_cons_zero, List.getElem_cons_succ])
            refine wpAnyH_ready (rs := [8]) (by kernel_rfl) (by simp) ?_
            refine AllReadyH.cons rfl (fun K hK => ?_) AllReadyH.nil
            go_simp
            refine hK.out _ _ ?_ (fun hHeld => ?_)
            · exact fun q v hv => by rw [World.cell?_of_block (Below.heap_setCell w1 ⟨hb, j, none⟩ _ XB hxh)]; exact g1 q v hv
            clear hK K
            (try simp only [Act.put, List.setIfInBounds_toArray, List.set_cons_zero, List.set_cons_succ, List.getElem_toArray, List.getElem_cons_zero, List.getElem_cons_succ])
            refine wpAnyH_done (by kernel_rfl) ?_ _
            go_wp2
            go_roundw
            case rel =>
              have hgg : (Value.slice (some ⟨gg, 0, none⟩) (i + 1) cap).ownBlock ≠ some hb := by
                intro e
                have e' : gg = hb := by simpa [Value.ownBlock] using e
                rcases HOW.out.2.2.1 with q | q
                · exact hnh (by rw [q, e'])
                · omega
              refine ⟨i + 1, st', rows ++ [x], .slice (some ⟨gg, 0, none⟩) (i + 1) cap, by omega, by simp [HRL.out], by go_num, HDL, ⟨.inr htb⟩, HNX, ⟨?_⟩⟩
              have hr' := HRL.out
              subst hr'
              exact (LRd.push (st' := st') rfl HNE.out.2 (by decide) (Rw.below HE.out.1 HWB.out) (HE.out.2.2.1.keep (HWB.out.block hb hhlt)) HRO.out (HE.out.2.2.2.2.trans (Fr.of_below HWB.out) fun i hi => .inl hi) HOW.out.1 HOW.out.2.1 HNE.out.1 hgg)
            case measure => simp [intOf]; omega
          · refine step_build_one rfl 35 103 (.tmp 70) rfl x rfl i0 _ 6 Tryz.underlying35 hI0 hz0 hz1 HXL.out (by decide) (by decide) ?_
            refine hK.out _ _ ?_ (fun hHeld => ?_)
            · exact HRA.out
            clear hK K
            (try simp only [Act.put, List.setIfInBounds_toArray, List.set_cons_zero, List.set_cons_succ, List.getElem_toArray, List.getElem_cons_zero, List.getElem_cons_succ])
            have k0 := HCA.out
            refine wpAnyH_ready (rs := [3]) (by kernel_rfl) (by simp) ?_
            refine AllReadyH.cons rfl (fun K hK => ?_) AllReadyH.nil
            go_simp
            refine hK.out _ _ ?_ (fun hHeld => ?_)
            · exact HRA.out
            clear hK K
            (try simp only [Act.put, List.setIfInBounds_toArray, List.set_cons_zero, List.set_cons_succ, List.getElem_toArray, List.getElem_cons_zero, List.getElem_cons_succ])
            refine wpAnyH_ready (rs := [6]) (by kernel_rfl) (by simp) ?_
            refine AllReadyH.cons rfl (fun K hK => ?_) AllReadyH.nil
            refine step_append_lies _ rfl (.tmp 69) (.tmp 71) 35 rfl w.heap.size 103 i0 _ 6 64 Tryz.underlying35 hI0 hz0 hz1 hz2 rfl (by decide) (.slice A i c) i rows.flatten rfl HRO.out ⟨wE.heap.size, 0, none⟩ 1 1 x rfl (by rw [HXL.out]) (World.news_of_block (cs := x.toArray) (t := 103) (fr := (0, 0)) (heap_alloc_new wE _)) HX1.out (by decide) (by unfold maxLen; omega) (by omega) HBA.out (wE.heap.size + 1) HSZ.out ?_
            intro gg cap w1 hown1 hgrow hat hlt1
            have HOW := Aside0.mk (And.intro hown1 (And.intro hgrow (And.intro hat hlt1)))
            have g1 : w1.rangeAt XB 0 x := fun q v hv => by
              rw [HOW.out.2.1.cell_far _ (Nat.lt_of_lt_of_le hxlt HWB.out.size) (Ne.symm hnx)]
              exact HRA.out q v hv
            have g2 : w1.frozen? ⟨hb, j, none⟩ = false := by
              rw [HOW.out.2.1.frozen_far _ (Nat.lt_of_lt_of_le hhlt HWB.out.size) (Ne.symm hnh)]
              exact HFA.out
            have g3 : w1.cell? ⟨hb, j, none⟩ = some (.slice A i c) := by
              rw [HOW.out.2.1.cell_far _ (Nat.lt_of_lt_of_le hhlt HWB.out.size) (Ne.symm hnh)]
              exact HCA.out
            clear hown1 hgrow hat
            refine hK.out _ _ ?_ (fun hHeld => ?_)
            · exact g1
            clear hK K
            (try simp only [Act.put, List.setIfInBounds_toArray, List.set_cons_zero, List.set_cons_succ, List.getElem_toArray, List.getElem_cons_zero, List.getElem_cons_succ])
            refine' wpAnyH_take (i := 7) (v := _) rfl (by kernel_rfl) (by kernel_rfl) (by kernel_rfl) (fun _ _ _ h => h) ?hy6 (by assumption) ?rs6
            case hy6 => exact .inl ⟨by rfl, by intro w' hSw; go_simp; (try with_reducible rfl)⟩
            (try simp only [Act.put, List.setIfInBounds_toArray, List.set_cons_zero, List.set_cons_succ, List.getElem_toArray, List.getElem_cons_zero, List.getElem_cons_succ])
            refine wpAnyH_ready (rs := [8]) (by kernel_rfl) (by simp) ?_
            refine AllReadyH.cons rfl (fun K hK => ?_) AllReadyH.nil
            go_simp
            refine hK.out _ _ ?_ (fun hHeld => ?_)
            · exact fun q v hv => by rw [World.cell?_of_block (Below.heap_setCell w1 ⟨hb, j, none⟩ _ XB hxh)]; exact g1 q v hv
            clear hK K
            (try simp only [Act.put, List.setIfInBounds_toArray, List.set_cons_zero, List.set_cons_succ, List.getElem_toArray, List.getElem_cons_zero, List.getElem_cons_succ])
            refine wpAnyH_done (by kernel_rfl) ?_ _
            go_wp2
            go_roundw
            case rel =>
              have hgg : (Value.slice (some ⟨gg, 0, none⟩) (i + 1) cap).ownBlock ≠ some hb := by
                intro e
                have e' : gg = hb := by simpa [Value.ownBlock] using e
                rcases HOW.out.2.2.1 with q | q
                · exact hnh (by rw [q, e'])
                · omega
              refine ⟨i + 1, st', rows ++ [x], .slice (some ⟨gg, 0, none⟩) (i + 1) cap, by omega, by simp [HRL.out], by go_num, HDL, ⟨.inr htb⟩, HNX, ⟨?_⟩⟩
              have hr' := HRL.out
              subst hr'
              exact (LRd.push (st' := st') rfl HNE.out.2 (by decide) (Rw.below HE.out.1 HWB.out) (HE.out.2.2.1.keep (HWB.out.block hb hhlt)) HRO.out (HE.out.2.2.2.2.trans (Fr.of_below HWB.out) fun i hi => .inl hi) HOW.out.1 HOW.out.2.1 HNE.out.1 hgg)
            case measure => simp [intOf]; omega
        · obtain rfl : i = tn := by omega
          have HFN : Aside0 (rdList ks_total s = (st, rows)) := ⟨by
            rw [HG.out, HRE.out, Nat.sub_self]
            simp [rdRows]⟩
          go_wp2
          go_end0
          refine ⟨rfl, .slice A i c, ?_⟩
          rw [HFN.out]
          exact HI.out
end Go.Proofs.YtgdoodeibcfcjaaGreat.Wire
