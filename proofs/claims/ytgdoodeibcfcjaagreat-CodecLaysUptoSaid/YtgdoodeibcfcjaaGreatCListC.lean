/- Instances of the codec's generic list, walked in both modes: notice, order. Printed by clist.py. -/
import Derived.Test.YtgdoodeibcfcjaaGreatCList
set_option linter.unusedVariables false
set_option linter.unusedSimpArgs false
namespace Go.Proofs.YtgdoodeibcfcjaaGreat.Wire
open Go.RowKit Go.Proofs.YtgdoodeibcfcjaaGreat.NumsPure Go.Proofs.YtgdoodeibcfcjaaGreat.CPure Go.Proofs.YtgdoodeibcfcjaaGreat.Own
open Go.Proofs.YtgdoodeibcfcjaaGreat.Put (digits digits_lt digits_ge)
open Go.Proofs.YtgdoodeibcfcjaaGreat.BldS (Keeps)
/-! ### list: notice -/
def ks_notice : List K := [.t, .t, .t, .n, .n, .n, .n, .n, .t, .n, .n, .n, .n, .n, .t, .n, .n, .n, .n, .n, .t, .n, .n, .n, .n, .n, .t, .n, .n, .n, .n, .n, .t, .n, .n, .n, .n, .n, .t, .n, .n, .n, .n, .n, .t, .n, .n, .n, .n, .n, .b]
theorem sc_notice_all : sc_notice = scOf 0 ks_notice := by rfl
theorem size_notice : (Tryz.prog.info? 82).map (·.size) = some 51 := by kernel_rfl
theorem info_notice : (Tryz.prog.info? 82).map (fun i => (i.zero, i.size, i.bytes)) = some (some (.agg #[.string ⟨#[]⟩, .string ⟨#[]⟩, .string ⟨#[]⟩, .int .i64 0, .int .i64 0, .int .i64 0, .int .i64 0, .int .i64 0, .string ⟨#[]⟩, .int .i64 0, .int .i64 0, .int .i64 0, .int .i64 0, .int .i64 0, .string ⟨#[]⟩, .int .i64 0, .int .i64 0, .int .i64 0, .int .i64 0, .int .i64 0, .string ⟨#[]⟩, .int .i64 0, .int .i64 0, .int .i64 0, .int .i64 0, .int .i64 0, .string ⟨#[]⟩, .int .i64 0, .int .i64 0, .int .i64 0, .int .i64 0, .int .i64 0, .string ⟨#[]⟩, .int .i64 0, .int .i64 0, .int .i64 0, .int .i64 0, .int .i64 0, .string ⟨#[]⟩, .int .i64 0, .int .i64 0, .int .i64 0, .int .i64 0, .int .i64 0, .string ⟨#[]⟩, .int .i64 0, .int .i64 0, .int .i64 0, .int .i64 0, .int .i64 0, .bool false]), 51, 488) := by kernel_rfl
set_option maxHeartbeats 8000000 in
set_option maxRecDepth 100000 in
theorem list_notice_w {B wb bb hb j c : Nat} {A : Option Addr} {bs : List UInt8} {rows : List (List Value)} {w : World} (h : Wr B wb bb bs w) (hc : w.cell? ⟨hb, j, none⟩ = some (.slice A rows.length c)) (hst : Stay B bb w hb) (hr : RowsAt B bb w A 51 rows)
    (hf : ∀ x ∈ rows, Fits ks_notice x) (hn : rows.length ≤ c) (hn2 : rows.length ≤ 100000000) (hl : bs.length + (encRows rows).length ≤ 140737488355328) :
    Calls Tryz.prog 69 #[.pointer (some ⟨wb, 0, none⟩), .pointer (some ⟨hb, j, none⟩), .func (.func 70) #[] #[]] w (Writ B wb bb (bs ++ encRows rows) w) := by
  obtain ⟨n, hnn⟩ : ∃ n, n = rows.length := ⟨_, rfl⟩
  rw [← hnn] at hc hn hn2
  have HN := Aside0.mk hnn
  have H := Aside0.mk h
  have HST := Aside0.mk hst
  have HR := Aside0.mk hr
  have HF := Aside0.mk hf
  have HL : Aside0 (bs.length + (digits n).length + (rows.flatMap encs).length ≤ 140737488355328) := ⟨by unfold encRows at hl; rw [List.length_append, ← hnn] at hl; omega⟩
  have hwc := h.out
  have HC := Aside0.mk hc
  clear h hst hr hf hl hnn
  go_enter Tryz.func69, Tryz.ntmps69
  go_upto_region 1 with (fail)
  go_region_held3 (fun w' => w'.cell? ⟨wb, 0, none⟩ = some (.pointer (some ⟨bb, 0, none⟩)) ∧ w'.cell? ⟨hb, j, none⟩ = some (.slice A n c)) (first | (go_split_ands; assumption) | (refine ⟨?_, ?_⟩ <;> assumption) | go_keep) (first
    | (go_at_call 94; refine (put_any n (by omega) _ _ (by simp)).mono ?_; rintro e wB ⟨rfl, hk⟩; have hk' : Below w.heap.size w wB := ((alloc_below w _).trans (⟨hk.os, hk.tape, hk.output, hk.size, fun i hi => hk.block i (by simp; omega)⟩ : Below w.heap.size (w.alloc _) wB)); have HB : Aside0 (Wr B wb bb bs wB ∧ Wk B bb w wB) := ⟨H.out.below hk', Wk.of_below H.out.le hk'⟩; clear hk hk'; have g0 := HB.out.1.out; have g1 : wB.cell? ⟨hb, j, none⟩ = some (.slice A n c) := by rw [Stay.cell HST.out HB.out.2]; exact HC.out)
    | (go_at_call 93; refine (HB.out.1.write (digits n) (by have := HL.out; omega)).mono ?_; rintro e wC ⟨⟨z', rfl⟩, hk1, hk2⟩; have HCC : Aside0 (Wr B wb bb (bs ++ digits n) wC ∧ Wk B bb w wC) := ⟨hk1, HB.out.2.trans hk2⟩; clear hk1 hk2; have k0 := HCC.out.1.out; have k1 : wC.cell? ⟨hb, j, none⟩ = some (.slice A n c) := by rw [Stay.cell HST.out HCC.out.2]; exact HC.out)
    | fail)
  go_wp2_with (fail)
  go_loopw [31] (fun v31 wr => ∃ i : Nat, i ≤ n ∧ v31 = .int .i64 i ∧ Aside0 (Wr B wb bb (bs ++ digits n ++ (rows.take i).flatMap encs) wr ∧ Wk B bb w wr)) (fun v31 _ => n - (intOf v31).toNat)
  case atStart => exact ⟨0, by omega, rfl, ⟨by simpa using HCC.out.1, HCC.out.2⟩⟩
  case round =>
    obtain ⟨i, hi, rfl, HI⟩ := hrel
    clear g0 g1 k0 k1 HB HCC
    by_cases hlt : i < n
    · have hil : i < rows.length := by have := HN.out; omega
      obtain ⟨x, hx⟩ : ∃ x, rows[i]? = some x := ⟨_, List.getElem?_eq_getElem hil⟩
      have hxf := HF.out x (List.mem_of_getElem? hx)
      obtain ⟨ad, rfl, hsa, hca⟩ := (HR.out.next HI.out.2).at_ (by omega)
      have hcx := hca i x hx
      have hxl : x.length = 51 := fits_len hxf
      have HE : Aside0 ((rows.take (i + 1)).flatMap encs = (rows.take i).flatMap encs ++ encs x) := ⟨rows_take rows i x hx⟩
      have HLX : Aside0 ((bs ++ digits n ++ (rows.take i).flatMap encs).length + (encs x).length ≤ 140737488355328) := ⟨by
        have h1 := HL.out
        have h2 := rows_le rows (i + 1)
        rw [HE.out, List.length_append] at h2
        simp only [List.length_append]; omega⟩
      have HXF := Aside0.mk hxf
      have HXL := Aside0.mk hxl
      have HCX : Aside0 (∀ m v, x[m]? = some v → wr.cell? ((ad.add (i * 51)).add m) = some v) := ⟨fun m v hv => by rw [add_of_add]; exact hcx m v hv⟩
      have HX1 : Aside0 (x.toArray.all (·.oneCell') = true) := ⟨all_oneCell_toArray (fits_one hxf)⟩
      clear hx hxf hsa hca hcx hxl
      go_wp2_with (first
        | ((with_reducible refine wpList_load_at (op := ⟨some 34, _, _, _, _, _⟩) ?a1 82 (.tmp 33) ?a2 (ad.add (i * 51)) ?a3 x _ HCX.out Tryz.underlying82 ?a4 ?a5 ?a6); (case a1 => rfl); (case a2 => rfl); (case a3 => rfl); (case a4 => rfl); (case a5 => (rw [size_notice, HXL.out])))
        | ((with_reducible refine wpList_store_new (op := ⟨none, Op.store _ (.tmp 7) (.tmp 34), _, _, _, _⟩) ?b1 82 (.tmp 7) (.tmp 34) ?b2 #[.string ⟨#[]⟩, .string ⟨#[]⟩, .string ⟨#[]⟩, .int .i64 0, .int .i64 0, .int .i64 0, .int .i64 0, .int .i64 0, .string ⟨#[]⟩, .int .i64 0, .int .i64 0, .int .i64 0, .int .i64 0, .int .i64 0, .string ⟨#[]⟩, .int .i64 0, .int .i64 0, .int .i64 0, .int .i64 0, .int .i64 0, .string ⟨#[]⟩, .int .i64 0, .int .i64 0, .int .i64 0, .int .i64 0, .int .i64 0, .string ⟨#[]⟩, .int .i64 0, .int .i64 0, .int .i64 0, .int .i64 0, .int .i64 0, .string ⟨#[]⟩, .int .i64 0, .int .i64 0, .int .i64 0, .int .i64 0, .int .i64 0, .string ⟨#[]⟩, .int .i64 0, .int .i64 0, .int .i64 0, .int .i64 0, .int .i64 0, .string ⟨#[]⟩, .int .i64 0, .int .i64 0, .int .i64 0, .int .i64 0, .int .i64 0, .bool false] x.toArray ?b3 ?b4 ?b5 ?b6 HX1.out ?b7); (case b1 => rfl); (case b2 => rfl); (case b3 => rfl); (case b4 => rfl); (case b5 => (rw [size_notice]; simp [HXL.out])); (case b6 => simp [HXL.out])))
      have HWX : Aside0 (Wr B wb bb (bs ++ digits n ++ (rows.take i).flatMap encs) (wr.alloc (.cells x.toArray 82)) ∧ Cs wr.heap.size 82 x (wr.alloc (.cells x.toArray 82))) := ⟨HI.out.1.below (alloc_below _ _), cs_alloc _ _ _ _ rfl⟩
      have HEX : Aside0 (encAt sc_notice x = encs x ∧ OkAt sc_notice x) := ⟨by rw [sc_notice_all]; exact ⟨enc_all _ _ (by rw [HXL.out]; rfl), ok_all _ _ HXF.out⟩⟩
      refine (notice_w HWX.out.1 HWX.out.2 (by decide) (by decide) HEX.out.2 (by rw [HEX.out.1]; exact HLX.out)).mono ?_
      rintro e wE ⟨rfl, p1, p2⟩
      have HEE : Aside0 (Wr B wb bb (bs ++ digits n ++ (rows.take (i + 1)).flatMap encs) wE ∧ Wk B bb w wE) := ⟨by rw [HE.out, ← List.append_assoc, ← HEX.out.1]; exact p1, HI.out.2.trans ((Wk.of_below HI.out.1.le (alloc_below _ _)).trans p2)⟩
      clear p1 p2
      go_wp2
      go_roundw
      case rel => exact ⟨i + 1, by omega, by go_num, HEE⟩
      case measure => simp [intOf]; omega
    · obtain rfl : i = n := by omega
      have HFL : Aside0 (rows.take i = rows) := ⟨List.take_of_length_le (by have := HN.out; omega)⟩
      go_wp2
      go_end0
      have := HI.out
      rw [HFL.out] at this
      refine ⟨rfl, ?_, this.2⟩
      unfold encRows
      rw [← HN.out, ← List.append_assoc]
      exact this.1
theorem zeros_notice : (#[.string ⟨#[]⟩, .string ⟨#[]⟩, .string ⟨#[]⟩, .int .i64 0, .int .i64 0, .int .i64 0, .int .i64 0, .int .i64 0, .string ⟨#[]⟩, .int .i64 0, .int .i64 0, .int .i64 0, .int .i64 0, .int .i64 0, .string ⟨#[]⟩, .int .i64 0, .int .i64 0, .int .i64 0, .int .i64 0, .int .i64 0, .string ⟨#[]⟩, .int .i64 0, .int .i64 0, .int .i64 0, .int .i64 0, .int .i64 0, .string ⟨#[]⟩, .int .i64 0, .int .i64 0, .int .i64 0, .int .i64 0, .int .i64 0, .string ⟨#[]⟩, .int .i64 0, .int .i64 0, .int .i64 0, .int .i64 0, .int .i64 0, .string ⟨#[]⟩, .int .i64 0, .int .i64 0, .int .i64 0, .int .i64 0, .int .i64 0, .string ⟨#[]⟩, .int .i64 0, .int .i64 0, .int .i64 0, .int .i64 0, .int .i64 0, .bool false] : Array Value) = (ks_notice.map zeroV).toArray := rfl
set_option maxHeartbeats 8000000 in
set_option maxRecDepth 100000 in
theorem list_notice_r {wb hb j : Nat} {s : Rd} {HT : TypeId} {hcs : List Value} {w : World} (h : Rw wb s w) (hh : Cs hb HT hcs w) (hj : hcs[j]? = some (.slice none 0 0)) (hne : hb ≠ wb) (hHT : HT ≠ 82) (hl : s.D.length ≤ 100000000) :
    Calls Tryz.prog 69 #[.pointer (some ⟨wb, 0, none⟩), .pointer (some ⟨hb, j, none⟩), .func (.func 70) #[] #[]] w (ListRd wb hb j HT 82 51 hcs (rdList ks_notice s) w) := by
  obtain ⟨i0, hI0, hz0, hz1, hz2⟩ := infoParts info_notice
  obtain ⟨tn, htn⟩ : ∃ tn, tn = (takeN s).1 := ⟨_, rfl⟩
  obtain ⟨s1, hs1⟩ : ∃ s1, s1 = (takeN s).2 := ⟨_, rfl⟩
  obtain ⟨s2, hs2⟩ : ∃ s2, s2 = (counted s).2 := ⟨_, rfl⟩
  have ctk := take_r h (by omega)
  rw [← htn, ← hs1] at ctk
  have htl : tn < 9223372036854775808 := by rw [htn]; exact take_lt s
  have hsl : s1.D.length ≤ 100000000 := by rw [hs1]; exact Nat.le_trans (take_len s) hl
  have hjl : j < hcs.length := (List.getElem?_eq_some_iff.1 hj).1
  have HG : Aside0 (rdList ks_notice s = rdRows ks_notice tn s2) := ⟨by unfold rdList; rw [hs2, htn]; rfl⟩
  have HE2 : Aside0 (s2 = if s1.D.length < tn then s1.fail else s1) := ⟨by rw [hs2, hs1, htn]; rfl⟩
  have hwc := h.cells.1
  have HH := Aside0.mk (And.intro hh hj)
  have HNE := Aside0.mk (And.intro hne hHT)
  have HHT := Aside0.mk (show hb < w.heap.size ∧ wb < w.heap.size from ⟨hh.lt, Cs.lt h⟩)
  clear h hh hj hHT htn hs1 hs2
  go_enter Tryz.func69, Tryz.ntmps69
  go_wp2_with (fail)
  refine ctk.mono ?_
  rintro e wA ⟨rfl, p1, p2⟩
  have HA : Aside0 (Rw wb s1 wA ∧ Cs hb HT hcs wA ∧ Fr (fun i => i = wb ∨ i = hb) w wA) := ⟨p1, HH.out.1.keep (p2.block hb HH.out.1.lt hne), ⟨p2.os, p2.tape, p2.output, p2.size, fun i hi hn => p2.block i hi fun q => hn (.inl q)⟩⟩
  clear p1 p2 ctk
  obtain ⟨a0, a1, a2, af⟩ := HA.out.1.cells
  obtain ⟨D1, hD1⟩ : ∃ D1 : ByteArray, D1 = ⟨s1.D.toArray⟩ := ⟨_, rfl⟩
  have hD1s : D1.size = s1.D.length := by rw [hD1, size_mk]
  rw [← hD1] at a1
  have HDS := Aside0.mk hD1s
  clear hD1 hD1s
  have hbd : s2.bad = true ∨ tn ≤ 100000000 := by
    rw [HE2.out]
    by_cases hgt : s1.D.length < tn
    · rw [if_pos hgt]; exact .inl rfl
    · right; omega
  have HBD := Aside0.mk hbd
  clear hbd
  go_upto_if 47 with (fail)
  go_cut [] (fun wx => LRd wb hb j HT 82 51 hcs w.heap.size (s2, []) (.slice none 0 0) w wx)
  case first =>
    have hset : hcs.set j (.slice none 0 0) = hcs := by
      apply List.ext_getElem?
      intro q
      rw [List.getElem?_set]
      split
      · rename_i hq
        subst hq
        exact HH.out.2.symm
      · rfl
    have HSET := Aside0.mk hset
    clear hset
    by_cases hgt : s1.D.length < tn
    · have hgt' : (D1.size : Int) < (tn : Int) := by have := HDS.out; omega
      have HGT := Aside0.mk hgt
      clear hgt
      go_wp2
      go_meet
      refine ⟨?_, ?_, World.ownsRow_nil _ _ _ _, HA.out.2.2.set _ _ (.inl (.inl rfl))⟩
      · show Rw wb s2 _
        rw [HE2.out, if_pos HGT.out]
        exact HA.out.1.isBad
      · rw [HSET.out]
        exact Cs.other HA.out.2.1 _ _ (Ne.symm hne)
    · have hgt' : ¬(D1.size : Int) < (tn : Int) := by have := HDS.out; omega
      have HGT := Aside0.mk hgt
      clear hgt
      go_wp2
      go_meet
      refine ⟨?_, ?_, World.ownsRow_nil _ _ _ _, HA.out.2.2⟩
      · show Rw wb s2 _
        rw [HE2.out, if_neg HGT.out]
        exact HA.out.1
      · rw [HSET.out]
        exact HA.out.2.1
  case rest =>
    have HX := Aside0.mk hcut
    clear hcut a0 a1 a2 af HA hwc
    go_wp2_with (fail)
    go_loopw [9] (fun v9 wr => ∃ (i : Nat) (st : Rd) (rows : List (List Value)) (v : Value), i ≤ tn ∧ rows.length = i ∧ v9 = .int .i64 i ∧ Aside0 (st.D.length ≤ 100000000) ∧ Aside0 (st.bad = true ∨ tn ≤ 100000000) ∧ Aside0 (rdRows ks_notice tn s2 = ((rdRows ks_notice (tn - i) st).1, rows ++ (rdRows ks_notice (tn - i) st).2)) ∧ Aside0 (LRd wb hb j HT 82 51 hcs w.heap.size (st, rows) v w wr)) (fun v9 _ => tn - (intOf v9).toNat)
    case atStart => exact ⟨0, s2, [], _, by omega, rfl, rfl, ⟨by rw [HE2.out]; split <;> exact hsl⟩, HBD, ⟨by simp⟩, HX⟩
    case round =>
      obtain ⟨i, st, rows, v, hi, hrl, rfl, HSL, HBT, HRE, HI⟩ := hrel
      clear HX HBD
      obtain ⟨A, c, rfl⟩ : ∃ A c, v = .slice A i c := by rw [← hrl]; exact own_shape HI.out.row
      have HRL := Aside0.mk hrl
      clear hrl
      obtain ⟨b0, b1, b2, bf⟩ := HI.out.rw.cells
      obtain ⟨qb, hbad⟩ : ∃ q, q = st.bad := ⟨_, rfl⟩
      rw [show (st, rows).1.bad = qb from hbad.symm] at b2
      have HBB := Aside0.mk hbad
      clear hbad
      cases qb with
      | true =>
        have HFN : Aside0 (rdList ks_notice s = (st, rows)) := ⟨by
          rw [HG.out, HRE.out]
          rw [rows_done _ _ st HBB.out.symm]
          simp⟩
        by_cases hlt : i < tn
        all_goals
          go_wp2
          go_end0
          refine ⟨rfl, .slice A i c, ?_⟩
          rw [HFN.out]
          exact HI.out
      | false =>
        by_cases hlt : i < tn
        · have htb : tn ≤ 100000000 := HBT.out.resolve_left (by rw [← HBB.out]; simp)
          have HNX : Aside0 (rdRows ks_notice tn s2 = ((rdRows ks_notice (tn - (i + 1)) (rds ks_notice st (ks_notice.map zeroV)).1).1, (rows ++ [(rds ks_notice st (ks_notice.map zeroV)).2]) ++ (rdRows ks_notice (tn - (i + 1)) (rds ks_notice st (ks_notice.map zeroV)).1).2)) := ⟨by
            rw [HRE.out, show tn - i = (tn - (i + 1)) + 1 from by omega]
            rw [rows_more _ _ st HBB.out.symm]
            simp⟩
          have HFX : Aside0 (Fits ks_notice (rds ks_notice st (ks_notice.map zeroV)).2) := ⟨fits_rds _ _ _ (fits_zero _)⟩
          have HDL : Aside0 ((rds ks_notice st (ks_notice.map zeroV)).1.D.length ≤ 100000000) := ⟨by
            rw [← rd_all _ _ _ (by simp)]
            exact Nat.le_trans (rdAt_len _ _).1 HSL.out⟩
          have HRD : Aside0 (rdAt sc_notice (st, ks_notice.map zeroV) = rds ks_notice st (ks_notice.map zeroV)) := ⟨by rw [sc_notice_all]; exact rd_all _ _ _ (by simp)⟩
          obtain ⟨p, hp⟩ : ∃ p, p = rds ks_notice st (ks_notice.map zeroV) := ⟨_, rfl⟩
          rw [← hp] at HNX HFX HRD HDL
          clear hp HRE
          obtain ⟨st', x⟩ := p
          simp only at HNX HFX HDL
          have hlw := Cs.lt HI.out.rw
          have hlh := HI.out.cs.lt
          go_wp2_with (fail)
          have HZ : Aside0 (Rw wb st (wr.alloc (.cells #[.string ⟨#[]⟩, .string ⟨#[]⟩, .string ⟨#[]⟩, .int .i64 0, .int .i64 0, .int .i64 0, .int .i64 0, .int .i64 0, .string ⟨#[]⟩, .int .i64 0, .int .i64 0, .int .i64 0, .int .i64 0, .int .i64 0, .string ⟨#[]⟩, .int .i64 0, .int .i64 0, .int .i64 0, .int .i64 0, .int .i64 0, .string ⟨#[]⟩, .int .i64 0, .int .i64 0, .int .i64 0, .int .i64 0, .int .i64 0, .string ⟨#[]⟩, .int .i64 0, .int .i64 0, .int .i64 0, .int .i64 0, .int .i64 0, .string ⟨#[]⟩, .int .i64 0, .int .i64 0, .int .i64 0, .int .i64 0, .int .i64 0, .string ⟨#[]⟩, .int .i64 0, .int .i64 0, .int .i64 0, .int .i64 0, .int .i64 0, .string ⟨#[]⟩, .int .i64 0, .int .i64 0, .int .i64 0, .int .i64 0, .int .i64 0, .bool false] 82)) ∧ Cs wr.heap.size 82 (ks_notice.map zeroV) (wr.alloc (.cells #[.string ⟨#[]⟩, .string ⟨#[]⟩, .string ⟨#[]⟩, .int .i64 0, .int .i64 0, .int .i64 0, .int .i64 0, .int .i64 0, .string ⟨#[]⟩, .int .i64 0, .int .i64 0, .int .i64 0, .int .i64 0, .int .i64 0, .string ⟨#[]⟩, .int .i64 0, .int .i64 0, .int .i64 0, .int .i64 0, .int .i64 0, .string ⟨#[]⟩, .int .i64 0, .int .i64 0, .int .i64 0, .int .i64 0, .int .i64 0, .string ⟨#[]⟩, .int .i64 0, .int .i64 0, .int .i64 0, .int .i64 0, .int .i64 0, .string ⟨#[]⟩, .int .i64 0, .int .i64 0, .int .i64 0, .int .i64 0, .int .i64 0, .string ⟨#[]⟩, .int .i64 0, .int .i64 0, .int .i64 0, .int .i64 0, .int .i64 0, .string ⟨#[]⟩, .int .i64 0, .int .i64 0, .int .i64 0, .int .i64 0, .int .i64 0, .bool false] 82))) := ⟨Rw.below HI.out.rw (alloc_below _ _), cs_alloc _ _ _ _ zeros_notice⟩
          have HSC : Aside0 (∀ y ∈ sc_notice, y.2 < (ks_notice.map zeroV).length) := ⟨by decide⟩
          refine (notice_r HZ.out.1 HZ.out.2 (by omega) HSC.out (Nat.le_trans HSL.out (by decide))).mono ?_
          rintro e wE ⟨rfl, p1, p2, p3⟩
          rw [HRD.out] at p1 p2
          simp only at p1 p2
          have HE : Aside0 (Rw wb st' wE ∧ Cs wr.heap.size 82 x wE ∧ Cs hb HT (hcs.set j (.slice A i c)) wE ∧ wE.ownsRow w.heap.size 82 51 (.slice A i c) rows.length rows.flatten ∧ Fr (fun i => i = wb ∨ i = hb) w wE) := ⟨by
            have q1 : ∀ b, b < wr.heap.size → b ≠ wb → wE.heap[b]? = wr.heap[b]? := fun b hb' hbw => (p3.block b (by simp; omega) (by rintro (q | q) <;> omega)).trans ((alloc_below wr _).block b hb')
            refine ⟨p1, p2, HI.out.cs.keep (q1 hb hlh hne), own_same HI.out.row fun g hg => q1 g (HI.out.row.lt g hg).2 (fun q => own_ne HI.out.row HI.out.rw (by decide) (by rw [hg, q])), (HI.out.fr.trans (Fr.of_below (alloc_below wr _)) fun i hi => .inl hi).trans p3 fun i hi => ?_⟩
            rcases hi with rfl | rfl
            · exact .inl (.inl rfl)
            · exact .inr HI.out.fr.size⟩
          have hxl : x.length = 51 := fits_len HFX.out
          have HX1 : Aside0 (∀ v ∈ x, v.oneCell' = true) := ⟨fits_one HFX.out⟩
          clear p1 p2 p3 HZ
          have c0 : wE.cell? ⟨hb, j, none⟩ = some (.slice A i c) := by rw [HE.out.2.2.1.cell, List.getElem?_set_self hjl]
          have f0 : wE.frozen? ⟨hb, j, none⟩ = false := HE.out.2.2.1.frozen j
          have hXB : Aside0 (∀ g, (Value.slice A i c).ownBlock = some g → g < wr.heap.size) := ⟨fun g hg => (HI.out.row.lt g hg).2⟩
          have hnh : (Value.slice A i c).ownBlock ≠ some hb := own_ne HE.out.2.2.2.1 HE.out.2.2.1 (Ne.symm HNE.out.2)
          obtain ⟨XB, hxb⟩ : ∃ XB, XB = wr.heap.size := ⟨_, rfl⟩
          rw [← hxb]
          rw [← hxb] at HE hXB
          have hnx : (Value.slice A i c).ownBlock ≠ some XB := fun e => by have := hXB.out XB e; omega
          have r0 : wE.rangeAt XB 0 x := fun q v hv => by rw [Nat.zero_add, HE.out.2.1.cell]; exact hv
          have hxlt := HE.out.2.1.lt
          have hhlt := HE.out.2.2.1.lt
          have hwlt := Cs.lt HE.out.1
          have hu := Tryz.underlying82
          have hi' : (Tryz.prog.info? 82).map (·.size) = some x.length := by rw [size_notice, hxl]
          have HXL := Aside0.mk hxl
          have HBS : Aside0 (w.heap.size ≤ wE.heap.size) := ⟨HE.out.2.2.2.2.size⟩
          have HXH : Aside0 (hb < XB) := ⟨by rw [hxb]; exact hlh⟩
          clear hxb hxl HI
          go_upto_region 15 with (fail)
          obtain ⟨WA, hWA⟩ : ∃ WA, WA = wE.drew.alloc (.cells x.toArray 82) := ⟨_, rfl⟩
          have HWB : Aside0 (Below wE.heap.size wE WA) := ⟨by rw [hWA]; have b := alloc_below wE (.cells x.toArray 82); exact ⟨b.os, b.tape, b.output, b.size, b.block⟩⟩
          have HRO : Aside0 (WA.ownsRow w.heap.size 82 51 (.slice A i c) i rows.flatten) := ⟨by have := HE.out.2.2.2.1.drew.alloc (.cells x.toArray 82); rw [HRL.out] at this; rw [hWA]; exact this⟩
          have HSZ : Aside0 (WA.heap.size = wE.heap.size + 1) := ⟨by rw [hWA]; simp⟩
          have HBA : Aside0 (w.heap.size ≤ WA.heap.size) := ⟨by have := HSZ.out; have := HBS.out; omega⟩
          have HRA : Aside0 (WA.rangeAt XB 0 x) := ⟨fun q v hv => by rw [World.cell?_of_block (HWB.out.block XB hxlt)]; exact r0 q v hv⟩
          have HFA : Aside0 (WA.frozen? ⟨hb, j, none⟩ = false) := ⟨by rw [World.frozen?_of_block (HWB.out.block hb hhlt)]; exact f0⟩
          have HCA : Aside0 (WA.cell? ⟨hb, j, none⟩ = some (.slice A i c)) := ⟨by rw [World.cell?_of_block (HWB.out.block hb hhlt)]; exact c0⟩
          have hxh : XB ≠ hb := fun e => by have := HXH.out; omega
          subst hWA
          refine wp_region_held_drew (S := (fun w' => w'.rangeAt XB 0 x)) (by kernel_rfl) ?_ (fun hHeld => ?_)
          · exact r0
          refine' wpAnyH_take (i := 0) (v := _) rfl (by kernel_rfl) (by kernel_rfl) (by kernel_rfl) (fun _ _ _ h => h) ?hy1 (by assumption) ?rs1
          case hy1 => exact .inl ⟨by rfl, by intro w' hSw; go_simp; (try with_reducible rfl)⟩
          (try simp only [Act.put, List.setIfInBounds_toArray, List.set_cons_zero, List.set_cons_succ, List.getElem_toArray, List.getElem_cons_zero, List.getElem_cons_succ])
          refine' wpAnyH_take (i := 1) (v := _) rfl (by kernel_rfl) (by kernel_rfl) (by kernel_rfl) (fun _ _ _ h => h) ?hy2 (by assumption) ?rs2
          case hy2 => exact .inl ⟨by rfl, by intro w' hSw; go_simp; (try with_reducible rfl)⟩
          (try simp only [Act.put, List.setIfInBounds_toArray, List.set_cons_zero, List.set_cons_succ, List.getElem_toArray, List.getElem_cons_zero, List.getElem_cons_succ])
          refine' wpAnyH_take (i := 2) (v := _) rfl (by kernel_rfl) (by kernel_rfl) (by kernel_rfl) (fun _ _ _ h => h) ?hy3 (by assumption) ?rs3
          case hy3 => exact .inl ⟨by rfl, by intro w' hSw; go_simp; (try with_reducible rfl)⟩
          (try simp only [Act.put, List.setIfInBounds_toArray, List.set_cons_zero, List.set_cons_succ, List.getElem_toArray, List.getElem_cons_zero, List.getElem_cons_succ])
          refine' wpAnyH_take (i := 4) (v := _) rfl (by kernel_rfl) (by kernel_rfl) (by kernel_rfl) (fun _ _ _ h => h) ?hy4 (by assumption) ?rs4
          case hy4 =>
            refine yieldsIf_load_mid ?ya 82 (.tmp 10) ?yb XB 0 ?yc x _ ?yd hu rfl hi'
            case ya => rfl
            case yb => rfl
            case yc => rfl
            case yd => exact fun w' hS => hS
          (try simp only [Act.put, List.setIfInBounds_toArray, List.set_cons_zero, List.set_cons_succ, List.getElem_toArray, List.getElem_cons_zero, List.getElem_cons_succ])
          refine wpAnyH_ready (rs := [3, 5]) (by kernel_rfl) (by simp) ?_
          refine AllReadyH.cons rfl (fun K hK => ?_) (AllReadyH.cons rfl (fun K hK => ?_) AllReadyH.nil)
          · go_simp
            refine hK.out _ _ ?_ (fun hHeld => ?_)
            · exact r0
            clear hK K
            (try simp only [Act.put, List.setIfInBounds_toArray, List.set_cons_zero, List.set_cons_succ, List.getElem_toArray, List.getElem_cons_zero, List.getElem_cons_succ])
            refine wpAnyH_ready (rs := [5]) (by kernel_rfl) (by simp) ?_
            refine AllReadyH.cons rfl (fun K hK => ?_) AllReadyH.nil
            refine step_build_one rfl 28 82 (.tmp 70) rfl x rfl i0 _ 51 Tryz.underlying28 hI0 hz0 hz1 HXL.out (by decide) (by decide) ?_
            refine hK.out _ _ ?_ (fun hHeld => ?_)
            · exact HRA.out
            clear hK K
            (try simp only [Act.put, List.setIfInBounds_toArray, List.set_cons_zero, List.set_cons_succ, List.getElem_toArray, List.getElem_cons_zero, List.getElem_cons_succ])
            refine wpAnyH_ready (rs := [6]) (by kernel_rfl) (by simp) ?_
            refine AllReadyH.cons rfl (fun K hK => ?_) AllReadyH.nil
            refine step_append_lies _ rfl (.tmp 69) (.tmp 71) 28 rfl w.heap.size 82 i0 _ 51 488 Tryz.underlying28 hI0 hz0 hz1 hz2 rfl (by decide) (.slice A i c) i rows.flatten rfl HRO.out ⟨wE.heap.size, 0, none⟩ 1 1 x rfl (by rw [HXL.out]) (World.news_of_block (cs := x.toArray) (t := 82) (fr := (0, 0)) (heap_alloc_new wE _)) HX1.out (by decide) (by unfold maxLen; omega) (by omega) HBA.out (wE.heap.size + 1) HSZ.out ?_
            intro gg cap w1 hown1 hgrow hat hlt1
            have HOW := Aside0.mk (And.intro hown1 (And.intro hgrow (And.intro hat hlt1)))
            have g1 : w1.rangeAt XB 0 x := fun q v hv => by
              rw [HOW.out.2.1.cell_far _ (Nat.lt_of_lt_of_le hxlt HWB.out.size) (Ne.symm hnx)]
              exact HRA.out q v hv
            have g2 : w1.frozen? ⟨hb, j, none⟩ = false := by
              rw [HOW.out.2.1.frozen_far _ (Nat.lt_of_lt_of_le hhlt HWB.out.size) (Ne.symm hnh)]
              exact HFA.out
            have g3 : w1.cell? ⟨hb, j, none⟩ = some (.slice A i c) := by
              rw [HOW.out.2.1.cell_far _ (Nat.lt_of_lt_of_le hhlt HWB.out.size) (Ne.symm hnh)]
              exact HCA.out
            clear hown1 hgrow hat
            refine hK.out _ _ ?_ (fun hHeld => ?_)
            · exact g1
            clear hK K
            (try simp only [Act.put, List.setIfInBounds_toArray, List.set_cons_zero, List.set_cons_succ, List.getElem_toArray, List.getElem_cons_zero, List.getElem_cons_succ])
            refine' wpAnyH_take (i := 7) (v := _) rfl (by kernel_rfl) (by kernel_rfl) (by kernel_rfl) (fun _ _ _ h => h) ?hy5 (by assumption) ?rs5
            case hy5 => exact .inl ⟨by rfl, by intro w' hSw; go_simp; (try with_reducible rfl)⟩
            (try simp only [Act.put, List.setIfInBounds_toArray, List.set_cons_zero, List.set_cons_succ, List.getElem_toArray, List.getElem_cons_zero, List.getElem_cons_succ])
            refine wpAnyH_ready (rs := [8]) (by kernel_rfl) (by simp) ?_
            refine AllReadyH.cons rfl (fun K hK => ?_) AllReadyH.nil
            go_simp
            refine hK.out _ _ ?_ (fun hHeld => ?_)
            · exact fun q v hv => by rw [World.cell?_of_block (Below.heap_setCell w1 ⟨hb, j, none⟩ _ XB hxh)]; exact g1 q v hv
            clear hK K
            (try simp only [Act.put, List.setIfInBounds_toArray, List.set_cons_zero, List.set_cons_succ, List.getElem_toArray, List.getElem_cons_zero, List.getElem_cons_succ])
            refine wpAnyH_done (by kernel_rfl) ?_ _
            go_wp2
            go_roundw
            case rel =>
              have hgg : (Value.slice (some ⟨gg, 0, none⟩) (i + 1) cap).ownBlock ≠ some hb := by
                intro e
                have e' : gg = hb := by simpa [Value.ownBlock] using e
                rcases HOW.out.2.2.1 with q | q
                · exact hnh (by rw [q, e'])
                · omega
              refine ⟨i + 1, st', rows ++ [x], .slice (some ⟨gg, 0, none⟩) (i + 1) cap, by omega, by simp [HRL.out], by go_num, HDL, ⟨.inr htb⟩, HNX, ⟨?_⟩⟩
              have hr' := HRL.out
              subst hr'
              exact (LRd.push (st' := st') rfl HNE.out.2 (by decide) (Rw.below HE.out.1 HWB.out) (HE.out.2.2.1.keep (HWB.out.block hb hhlt)) HRO.out (HE.out.2.2.2.2.trans (Fr.of_below HWB.out) fun i hi => .inl hi) HOW.out.1 HOW.out.2.1 HNE.out.1 hgg)
            case measure => simp [intOf]; omega
          · refine step_build_one rfl 28 82 (.tmp 70) rfl x rfl i0 _ 51 Tryz.underlying28 hI0 hz0 hz1 HXL.out (by decide) (by decide) ?_
            refine hK.out _ _ ?_ (fun hHeld => ?_)
            · exact HRA.out
            clear hK K
            (try simp only [Act.put, List.setIfInBounds_toArray, List.set_cons_zero, List.set_cons_succ, List.getElem_toArray, List.getElem_cons_zero, List.getElem_cons_succ])
            have k0 := HCA.out
            refine wpAnyH_ready (rs := [3]) (by kernel_rfl) (by simp) ?_
            refine AllReadyH.cons rfl (fun K hK => ?_) AllReadyH.nil
            go_simp
            refine hK.out _ _ ?_ (fun hHeld => ?_)
            · exact HRA.out
            clear hK K
            (try simp only [Act.put, List.setIfInBounds_toArray, List.set_cons_zero, List.set_cons_succ, List.getElem_toArray, List.getElem_cons_zero, List.getElem_cons_succ])
            refine wpAnyH_ready (rs := [6]) (by kernel_rfl) (by simp) ?_
            refine AllReadyH.cons rfl (fun K hK => ?_) AllReadyH.nil
            refine step_append_lies _ rfl (.tmp 69) (.tmp 71) 28 rfl w.heap.size 82 i0 _ 51 488 Tryz.underlying28 hI0 hz0 hz1 hz2 rfl (by decide) (.slice A i c) i rows.flatten rfl HRO.out ⟨wE.heap.size, 0, none⟩ 1 1 x rfl (by rw [HXL.out]) (World.news_of_block (cs := x.toArray) (t := 82) (fr := (0, 0)) (heap_alloc_new wE _)) HX1.out (by decide) (by unfold maxLen; omega) (by omega) HBA.out (wE.heap.size + 1) HSZ.out ?_
            intro gg cap w1 hown1 hgrow hat hlt1
            have HOW := Aside0.mk (And.intro hown1 (And.intro hgrow (And.intro hat hlt1)))
            have g1 : w1.rangeAt XB 0 x := fun q v hv => by
              rw [HOW.out.2.1.cell_far _ (Nat.lt_of_lt_of_le hxlt HWB.out.size) (Ne.symm hnx)]
              exact HRA.out q v hv
            have g2 : w1.frozen? ⟨hb, j, none⟩ = false := by
              rw [HOW.out.2.1.frozen_far _ (Nat.lt_of_lt_of_le hhlt HWB.out.size) (Ne.symm hnh)]
              exact HFA.out
            have g3 : w1.cell? ⟨hb, j, none⟩ = some (.slice A i c) := by
              rw [HOW.out.2.1.cell_far _ (Nat.lt_of_lt_of_le hhlt HWB.out.size) (Ne.symm hnh)]
              exact HCA.out
            clear hown1 hgrow hat
            refine hK.out _ _ ?_ (fun hHeld => ?_)
            · exact g1
            clear hK K
            (try simp only [Act.put, List.setIfInBounds_toArray, List.set_cons_zero, List.set_cons_succ, List.getElem_toArray, List.getElem_cons_zero, List.getElem_cons_succ])
            refine' wpAnyH_take (i := 7) (v := _) rfl (by kernel_rfl) (by kernel_rfl) (by kernel_rfl) (fun _ _ _ h => h) ?hy6 (by assumption) ?rs6
            case hy6 => exact .inl ⟨by rfl, by intro w' hSw; go_simp; (try with_reducible rfl)⟩
            (try simp only [Act.put, List.setIfInBounds_toArray, List.set_cons_zero, List.set_cons_succ, List.getElem_toArray, List.getElem_cons_zero, List.getElem_cons_succ])
            refine wpAnyH_ready (rs := [8]) (by kernel_rfl) (by simp) ?_
            refine AllReadyH.cons rfl (fun K hK => ?_) AllReadyH.nil
            go_simp
            refine hK.out _ _ ?_ (fun hHeld => ?_)
            · exact fun q v hv => by rw [World.cell?_of_block (Below.heap_setCell w1 ⟨hb, j, none⟩ _ XB hxh)]; exact g1 q v hv
            clear hK K
            (try simp only [Act.put, List.setIfInBounds_toArray, List.set_cons_zero, List.set_cons_succ, List.getElem_toArray, List.getElem_cons_zero, List.getElem_cons_succ])
            refine wpAnyH_done (by kernel_rfl) ?_ _
            go_wp2
            go_roundw
            case rel =>
              have hgg : (Value.slice (some ⟨gg, 0, none⟩) (i + 1) cap).ownBlock ≠ some hb := by
                intro e
                have e' : gg = hb := by simpa [Value.ownBlock] using e
                rcases HOW.out.2.2.1 with q | q
                · exact hnh (by rw [q, e'])
                · omega
              refine ⟨i + 1, st', rows ++ [x], .slice (some ⟨gg, 0, none⟩) (i + 1) cap, by omega, by simp [HRL.out], by go_num, HDL, ⟨.inr htb⟩, HNX, ⟨?_⟩⟩
              have hr' := HRL.out
              subst hr'
              exact (LRd.push (st' := st') rfl HNE.out.2 (by decide) (Rw.below HE.out.1 HWB.out) (HE.out.2.2.1.keep (HWB.out.block hb hhlt)) HRO.out (HE.out.2.2.2.2.trans (Fr.of_below HWB.out) fun i hi => .inl hi) HOW.out.1 HOW.out.2.1 HNE.out.1 hgg)
            case measure => simp [intOf]; omega
        · obtain rfl : i = tn := by omega
          have HFN : Aside0 (rdList ks_notice s = (st, rows)) := ⟨by
            rw [HG.out, HRE.out, Nat.sub_self]
            simp [rdRows]⟩
          go_wp2
          go_end0
          refine ⟨rfl, .slice A i c, ?_⟩
          rw [HFN.out]
          exact HI.out
/-! ### list: order -/
def ks_order : List K := [.t, .t, .t, .n, .n, .n, .n, .n, .t, .n, .n, .n, .n, .n, .t, .n, .n, .n, .n, .n, .t, .n, .n, .n, .n, .n, .t, .n, .n, .n, .n, .n, .t, .n, .n, .n, .n, .n, .t, .n, .n, .n, .n, .n, .t, .n, .n, .n, .n, .n]
theorem sc_order_all : sc_order = scOf 0 ks_order := by rfl
theorem size_order : (Tryz.prog.info? 85).map (·.size) = some 50 := by kernel_rfl
theorem info_order : (Tryz.prog.info? 85).map (fun i => (i.zero, i.size, i.bytes)) = some (some (.agg #[.string ⟨#[]⟩, .string ⟨#[]⟩, .string ⟨#[]⟩, .int .i64 0, .int .i64 0, .int .i64 0, .int .i64 0, .int .i64 0, .string ⟨#[]⟩, .int .i64 0, .int .i64 0, .int .i64 0, .int .i64 0, .int .i64 0, .string ⟨#[]⟩, .int .i64 0, .int .i64 0, .int .i64 0, .int .i64 0, .int .i64 0, .string ⟨#[]⟩, .int .i64 0, .int .i64 0, .int .i64 0, .int .i64 0, .int .i64 0, .string ⟨#[]⟩, .int .i64 0, .int .i64 0, .int .i64 0, .int .i64 0, .int .i64 0, .string ⟨#[]⟩, .int .i64 0, .int .i64 0, .int .i64 0, .int .i64 0, .int .i64 0, .string ⟨#[]⟩, .int .i64 0, .int .i64 0, .int .i64 0, .int .i64 0, .int .i64 0, .string ⟨#[]⟩, .int .i64 0, .int .i64 0, .int .i64 0, .int .i64 0, .int .i64 0]), 50, 480) := by kernel_rfl
set_option maxHeartbeats 8000000 in
set_option maxRecDepth 100000 in
theorem list_order_w {B wb bb hb j c : Nat} {A : Option Addr} {bs : List UInt8} {rows : List (List Value)} {w : World} (h : Wr B wb bb bs w) (hc : w.cell? ⟨hb, j, none⟩ = some (.slice A rows.length c)) (hst : Stay B bb w hb) (hr : RowsAt B bb w A 50 rows)
    (hf : ∀ x ∈ rows, Fits ks_order x) (hn : rows.length ≤ c) (hn2 : rows.length ≤ 100000000) (hl : bs.length + (encRows rows).length ≤ 140737488355328) :
    Calls Tryz.prog 73 #[.pointer (some ⟨wb, 0, none⟩), .pointer (some ⟨hb, j, none⟩), .func (.func 74) #[] #[]] w (Writ B wb bb (bs ++ encRows rows) w) := by
  obtain ⟨n, hnn⟩ : ∃ n, n = rows.length := ⟨_, rfl⟩
  rw [← hnn] at hc hn hn2
  have HN := Aside0.mk hnn
  have H := Aside0.mk h
  have HST := Aside0.mk hst
  have HR := Aside0.mk hr
  have HF := Aside0.mk hf
  have HL : Aside0 (bs.length + (digits n).length + (rows.flatMap encs).length ≤ 140737488355328) := ⟨by unfold encRows at hl; rw [List.length_append, ← hnn] at hl; omega⟩
  have hwc := h.out
  have HC := Aside0.mk hc
  clear h hst hr hf hl hnn
  go_enter Tryz.func73, Tryz.ntmps73
  go_upto_region 1 with (fail)
  go_region_held3 (fun w' => w'.cell? ⟨wb, 0, none⟩ = some (.pointer (some ⟨bb, 0, none⟩)) ∧ w'.cell? ⟨hb, j, none⟩ = some (.slice A n c)) (first | (go_split_ands; assumption) | (refine ⟨?_, ?_⟩ <;> assumption) | go_keep) (first
    | (go_at_call 94; refine (put_any n (by omega) _ _ (by simp)).mono ?_; rintro e wB ⟨rfl, hk⟩; have hk' : Below w.heap.size w wB := ((alloc_below w _).trans (⟨hk.os, hk.tape, hk.output, hk.size, fun i hi => hk.block i (by simp; omega)⟩ : Below w.heap.size (w.alloc _) wB)); have HB : Aside0 (Wr B wb bb bs wB ∧ Wk B bb w wB) := ⟨H.out.below hk', Wk.of_below H.out.le hk'⟩; clear hk hk'; have g0 := HB.out.1.out; have g1 : wB.cell? ⟨hb, j, none⟩ = some (.slice A n c) := by rw [Stay.cell HST.out HB.out.2]; exact HC.out)
    | (go_at_call 93; refine (HB.out.1.write (digits n) (by have := HL.out; omega)).mono ?_; rintro e wC ⟨⟨z', rfl⟩, hk1, hk2⟩; have HCC : Aside0 (Wr B wb bb (bs ++ digits n) wC ∧ Wk B bb w wC) := ⟨hk1, HB.out.2.trans hk2⟩; clear hk1 hk2; have k0 := HCC.out.1.out; have k1 : wC.cell? ⟨hb, j, none⟩ = some (.slice A n c) := by rw [Stay.cell HST.out HCC.out.2]; exact HC.out)
    | fail)
  go_wp2_with (fail)
  go_loopw [31] (fun v31 wr => ∃ i : Nat, i ≤ n ∧ v31 = .int .i64 i ∧ Aside0 (Wr B wb bb (bs ++ digits n ++ (rows.take i).flatMap encs) wr ∧ Wk B bb w wr)) (fun v31 _ => n - (intOf v31).toNat)
  case atStart => exact ⟨0, by omega, rfl, ⟨by simpa using HCC.out.1, HCC.out.2⟩⟩
  case round =>
    obtain ⟨i, hi, rfl, HI⟩ := hrel
    clear g0 g1 k0 k1 HB HCC
    by_cases hlt : i < n
    · have hil : i < rows.length := by have := HN.out; omega
      obtain ⟨x, hx⟩ : ∃ x, rows[i]? = some x := ⟨_, List.getElem?_eq_getElem hil⟩
      have hxf := HF.out x (List.mem_of_getElem? hx)
      obtain ⟨ad, rfl, hsa, hca⟩ := (HR.out.next HI.out.2).at_ (by omega)
      have hcx := hca i x hx
      have hxl : x.length = 50 := fits_len hxf
      have HE : Aside0 ((rows.take (i + 1)).flatMap encs = (rows.take i).flatMap encs ++ encs x) := ⟨rows_take rows i x hx⟩
      have HLX : Aside0 ((bs ++ digits n ++ (rows.take i).flatMap encs).length + (encs x).length ≤ 140737488355328) := ⟨by
        have h1 := HL.out
        have h2 := rows_le rows (i + 1)
        rw [HE.out, List.length_append] at h2
        simp only [List.length_append]; omega⟩
      have HXF := Aside0.mk hxf
      have HXL := Aside0.mk hxl
      have HCX : Aside0 (∀ m v, x[m]? = some v → wr.cell? ((ad.add (i * 50)).add m) = some v) := ⟨fun m v hv => by rw [add_of_add]; exact hcx m v hv⟩
      have HX1 : Aside0 (x.toArray.all (·.oneCell') = true) := ⟨all_oneCell_toArray (fits_one hxf)⟩
      clear hx hxf hsa hca hcx hxl
      go_wp2_with (first
        | ((with_reducible refine wpList_load_at (op := ⟨some 34, _, _, _, _, _⟩) ?a1 85 (.tmp 33) ?a2 (ad.add (i * 50)) ?a3 x _ HCX.out Tryz.underlying85 ?a4 ?a5 ?a6); (case a1 => rfl); (case a2 => rfl); (case a3 => rfl); (case a4 => rfl); (case a5 => (rw [size_order, HXL.out])))
        | ((with_reducible refine wpList_store_new (op := ⟨none, Op.store _ (.tmp 7) (.tmp 34), _, _, _, _⟩) ?b1 85 (.tmp 7) (.tmp 34) ?b2 #[.string ⟨#[]⟩, .string ⟨#[]⟩, .string ⟨#[]⟩, .int .i64 0, .int .i64 0, .int .i64 0, .int .i64 0, .int .i64 0, .string ⟨#[]⟩, .int .i64 0, .int .i64 0, .int .i64 0, .int .i64 0, .int .i64 0, .string ⟨#[]⟩, .int .i64 0, .int .i64 0, .int .i64 0, .int .i64 0, .int .i64 0, .string ⟨#[]⟩, .int .i64 0, .int .i64 0, .int .i64 0, .int .i64 0, .int .i64 0, .string ⟨#[]⟩, .int .i64 0, .int .i64 0, .int .i64 0, .int .i64 0, .int .i64 0, .string ⟨#[]⟩, .int .i64 0, .int .i64 0, .int .i64 0, .int .i64 0, .int .i64 0, .string ⟨#[]⟩, .int .i64 0, .int .i64 0, .int .i64 0, .int .i64 0, .int .i64 0, .string ⟨#[]⟩, .int .i64 0, .int .i64 0, .int .i64 0, .int .i64 0, .int .i64 0] x.toArray ?b3 ?b4 ?b5 ?b6 HX1.out ?b7); (case b1 => rfl); (case b2 => rfl); (case b3 => rfl); (case b4 => rfl); (case b5 => (rw [size_order]; simp [HXL.out])); (case b6 => simp [HXL.out])))
      have HWX : Aside0 (Wr B wb bb (bs ++ digits n ++ (rows.take i).flatMap encs) (wr.alloc (.cells x.toArray 85)) ∧ Cs wr.heap.size 85 x (wr.alloc (.cells x.toArray 85))) := ⟨HI.out.1.below (alloc_below _ _), cs_alloc _ _ _ _ rfl⟩
      have HEX : Aside0 (encAt sc_order x = encs x ∧ OkAt sc_order x) := ⟨by rw [sc_order_all]; exact ⟨enc_all _ _ (by rw [HXL.out]; rfl), ok_all _ _ HXF.out⟩⟩
      refine (order_w HWX.out.1 HWX.out.2 (by decide) (by decide) HEX.out.2 (by rw [HEX.out.1]; exact HLX.out)).mono ?_
      rintro e wE ⟨rfl, p1, p2⟩
      have HEE : Aside0 (Wr B wb bb (bs ++ digits n ++ (rows.take (i + 1)).flatMap encs) wE ∧ Wk B bb w wE) := ⟨by rw [HE.out, ← List.append_assoc, ← HEX.out.1]; exact p1, HI.out.2.trans ((Wk.of_below HI.out.1.le (alloc_below _ _)).trans p2)⟩
      clear p1 p2
      go_wp2
      go_roundw
      case rel => exact ⟨i + 1, by omega, by go_num, HEE⟩
      case measure => simp [intOf]; omega
    · obtain rfl : i = n := by omega
      have HFL : Aside0 (rows.take i = rows) := ⟨List.take_of_length_le (by have := HN.out; omega)⟩
      go_wp2
      go_end0
      have := HI.out
      rw [HFL.out] at this
      refine ⟨rfl, ?_, this.2⟩
      unfold encRows
      rw [← HN.out, ← List.append_assoc]
      exact this.1
theorem zeros_order : (#[.string ⟨#[]⟩, .string ⟨#[]⟩, .string ⟨#[]⟩, .int .i64 0, .int .i64 0, .int .i64 0, .int .i64 0, .int .i64 0, .string ⟨#[]⟩, .int .i64 0, .int .i64 0, .int .i64 0, .int .i64 0, .int .i64 0, .string ⟨#[]⟩, .int .i64 0, .int .i64 0, .int .i64 0, .int .i64 0, .int .i64 0, .string ⟨#[]⟩, .int .i64 0, .int .i64 0, .int .i64 0, .int .i64 0, .int .i64 0, .string ⟨#[]⟩, .int .i64 0, .int .i64 0, .int .i64 0, .int .i64 0, .int .i64 0, .string ⟨#[]⟩, .int .i64 0, .int .i64 0, .int .i64 0, .int .i64 0, .int .i64 0, .string ⟨#[]⟩, .int .i64 0, .int .i64 0, .int .i64 0, .int .i64 0, .int .i64 0, .string ⟨#[]⟩, .int .i64 0, .int .i64 0, .int .i64 0, .int .i64 0, .int .i64 0] : Array Value) = (ks_order.map zeroV).toArray := rfl
set_option maxHeartbeats 8000000 in
set_option maxRecDepth 100000 in
theorem list_order_r {wb hb j : Nat} {s : Rd} {HT : TypeId} {hcs : List Value} {w : World} (h : Rw wb s w) (hh : Cs hb HT hcs w) (hj : hcs[j]? = some (.slice none 0 0)) (hne : hb ≠ wb) (hHT : HT ≠ 85) (hl : s.D.length ≤ 100000000) :
    Calls Tryz.prog 73 #[.pointer (some ⟨wb, 0, none⟩), .pointer (some ⟨hb, j, none⟩), .func (.func 74) #[] #[]] w (ListRd wb hb j HT 85 50 hcs (rdList ks_order s) w) := by
  obtain ⟨i0, hI0, hz0, hz1, hz2⟩ := infoParts info_order
  obtain ⟨tn, htn⟩ : ∃ tn, tn = (takeN s).1 := ⟨_, rfl⟩
  obtain ⟨s1, hs1⟩ : ∃ s1, s1 = (takeN s).2 := ⟨_, rfl⟩
  obtain ⟨s2, hs2⟩ : ∃ s2, s2 = (counted s).2 := ⟨_, rfl⟩
  have ctk := take_r h (by omega)
  rw [← htn, ← hs1] at ctk
  have htl : tn < 9223372036854775808 := by rw [htn]; exact take_lt s
  have hsl : s1.D.length ≤ 100000000 := by rw [hs1]; exact Nat.le_trans (take_len s) hl
  have hjl : j < hcs.length := (List.getElem?_eq_some_iff.1 hj).1
  have HG : Aside0 (rdList ks_order s = rdRows ks_order tn s2) := ⟨by unfold rdList; rw [hs2, htn]; rfl⟩
  have HE2 : Aside0 (s2 = if s1.D.length < tn then s1.fail else s1) := ⟨by rw [hs2, hs1, htn]; rfl⟩
  have hwc := h.cells.1
  have HH := Aside0.mk (And.intro hh hj)
  have HNE := Aside0.mk (And.intro hne hHT)
  have HHT := Aside0.mk (show hb < w.heap.size ∧ wb < w.heap.size from ⟨hh.lt, Cs.lt h⟩)
  clear h hh hj hHT htn hs1 hs2
  go_enter Tryz.func73, Tryz.ntmps73
  go_wp2_with (fail)
  refine ctk.mono ?_
  rintro e wA ⟨rfl, p1, p2⟩
  have HA : Aside0 (Rw wb s1 wA ∧ Cs hb HT hcs wA ∧ Fr (fun i => i = wb ∨ i = hb) w wA) := ⟨p1, HH.out.1.keep (p2.block hb HH.out.1.lt hne), ⟨p2.os, p2.tape, p2.output, p2.size, fun i hi hn => p2.block i hi fun q => hn (.inl q)⟩⟩
  clear p1 p2 ctk
  obtain ⟨a0, a1, a2, af⟩ := HA.out.1.cells
  obtain ⟨D1, hD1⟩ : ∃ D1 : ByteArray, D1 = ⟨s1.D.toArray⟩ := ⟨_, rfl⟩
  have hD1s : D1.size = s1.D.length := by rw [hD1, size_mk]
  rw [← hD1] at a1
  have HDS := Aside0.mk hD1s
  clear hD1 hD1s
  have hbd : s2.bad = true ∨ tn ≤ 100000000 := by
    rw [HE2.out]
    by_cases hgt : s1.D.length < tn
    · rw [if_pos hgt]; exact .inl rfl
    · right; omega
  have HBD := Aside0.mk hbd
  clear hbd
  go_upto_if 47 with (fail)
  go_cut [] (fun wx => LRd wb hb j HT 85 50 hcs w.heap.size (s2, []) (.slice none 0 0) w wx)
  case first =>
    have hset : hcs.set j (.slice none 0 0) = hcs := by
      apply List.ext_getElem?
      intro q
      rw [List.getElem?_set]
      split
      · rename_i hq
        subst hq
        exact HH.out.2.symm
      · rfl
    have HSET := Aside0.mk hset
    clear hset
    by_cases hgt : s1.D.length < tn
    · have hgt' : (D1.size : Int) < (tn : Int) := by have := HDS.out; omega
      have HGT := Aside0.mk hgt
      clear hgt
      go_wp2
      go_meet
      refine ⟨?_, ?_, World.ownsRow_nil _ _ _ _, HA.out.2.2.set _ _ (.inl (.inl rfl))⟩
      · show Rw wb s2 _
        rw [HE2.out, if_pos HGT.out]
        exact HA.out.1.isBad
      · rw [HSET.out]
        exact Cs.other HA.out.2.1 _ _ (Ne.symm hne)
    · have hgt' : ¬(D1.size : Int) < (tn : Int) := by have := HDS.out; omega
      have HGT := Aside0.mk hgt
      clear hgt
      go_wp2
      go_meet
      refine ⟨?_, ?_, World.ownsRow_nil _ _ _ _, HA.out.2.2⟩
      · show Rw wb s2 _
        rw [HE2.out, if_neg HGT.out]
        exact HA.out.1
      · rw [HSET.out]
        exact HA.out.2.1
  case rest =>
    have HX := Aside0.mk hcut
    clear hcut a0 a1 a2 af HA hwc
    go_wp2_with (fail)
    go_loopw [9] (fun v9 wr => ∃ (i : Nat) (st : Rd) (rows : List (List Value)) (v : Value), i ≤ tn ∧ rows.length = i ∧ v9 = .int .i64 i ∧ Aside0 (st.D.length ≤ 100000000) ∧ Aside0 (st.bad = true ∨ tn ≤ 100000000) ∧ Aside0 (rdRows ks_order tn s2 = ((rdRows ks_order (tn - i) st).1, rows ++ (rdRows ks_order (tn - i) st).2)) ∧ Aside0 (LRd wb hb j HT 85 50 hcs w.heap.size (st, rows) v w wr)) (fun v9 _ => tn - (intOf v9).toNat)
    case atStart => exact ⟨0, s2, [], _, by omega, rfl, rfl, ⟨by rw [HE2.out]; split <;> exact hsl⟩, HBD, ⟨by simp⟩, HX⟩
    case round =>
      obtain ⟨i, st, rows, v, hi, hrl, rfl, HSL, HBT, HRE, HI⟩ := hrel
      clear HX HBD
      obtain ⟨A, c, rfl⟩ : ∃ A c, v = .slice A i c := by rw [← hrl]; exact own_shape HI.out.row
      have HRL := Aside0.mk hrl
      clear hrl
      obtain ⟨b0, b1, b2, bf⟩ := HI.out.rw.cells
      obtain ⟨qb, hbad⟩ : ∃ q, q = st.bad := ⟨_, rfl⟩
      rw [show (st, rows).1.bad = qb from hbad.symm] at b2
      have HBB := Aside0.mk hbad
      clear hbad
      cases qb with
      | true =>
        have HFN : Aside0 (rdList ks_order s = (st, rows)) := ⟨by
          rw [HG.out, HRE.out]
          rw [rows_done _ _ st HBB.out.symm]
          simp⟩
        by_cases hlt : i < tn
        all_goals
          go_wp2
          go_end0
          refine ⟨rfl, .slice A i c, ?_⟩
          rw [HFN.out]
          exact HI.out
      | false =>
        by_cases hlt : i < tn
        · have htb : tn ≤ 100000000 := HBT.out.resolve_left (by rw [← HBB.out]; simp)
          have HNX : Aside0 (rdRows ks_order tn s2 = ((rdRows ks_order (tn - (i + 1)) (rds ks_order st (ks_order.map zeroV)).1).1, (rows ++ [(rds ks_order st (ks_order.map zeroV)).2]) ++ (rdRows ks_order (tn - (i + 1)) (rds ks_order st (ks_order.map zeroV)).1).2)) := ⟨by
            rw [HRE.out, show tn - i = (tn - (i + 1)) + 1 from by omega]
            rw [rows_more _ _ st HBB.out.symm]
            simp⟩
          have HFX : Aside0 (Fits ks_order (rds ks_order st (ks_order.map zeroV)).2) := ⟨fits_rds _ _ _ (fits_zero _)⟩
          have HDL : Aside0 ((rds ks_order st (ks_order.map zeroV)).1.D.length ≤ 100000000) := ⟨by
            rw [← rd_all _ _ _ (by simp)]
            exact Nat.le_trans (rdAt_len _ _).1 HSL.out⟩
          have HRD : Aside0 (rdAt sc_order (st, ks_order.map zeroV) = rds ks_order st (ks_order.map zeroV)) := ⟨by rw [sc_order_all]; exact rd_all _ _ _ (by simp)⟩
          obtain ⟨p, hp⟩ : ∃ p, p = rds ks_order st (ks_order.map zeroV) := ⟨_, rfl⟩
          rw [← hp] at HNX HFX HRD HDL
          clear hp HRE
          obtain ⟨st', x⟩ := p
          simp only at HNX HFX HDL
          have hlw := Cs.lt HI.out.rw
          have hlh := HI.out.cs.lt
          go_wp2_with (fail)
          have HZ : Aside0 (Rw wb st (wr.alloc (.cells #[.string ⟨#[]⟩, .string ⟨#[]⟩, .string ⟨#[]⟩, .int .i64 0, .int .i64 0, .int .i64 0, .int .i64 0, .int .i64 0, .string ⟨#[]⟩, .int .i64 0, .int .i64 0, .int .i64 0, .int .i64 0, .int .i64 0, .string ⟨#[]⟩, .int .i64 0, .int .i64 0, .int .i64 0, .int .i64 0, .int .i64 0, .string ⟨#[]⟩, .int .i64 0, .int .i64 0, .int .i64 0, .int .i64 0, .int .i64 0, .string ⟨#[]⟩, .int .i64 0, .int .i64 0, .int .i64 0, .int .i64 0, .int .i64 0, .string ⟨#[]⟩, .int .i64 0, .int .i64 0, .int .i64 0, .int .i64 0, .int .i64 0, .string ⟨#[]⟩, .int .i64 0, .int .i64 0, .int .i64 0, .int .i64 0, .int .i64 0, .string ⟨#[]⟩, .int .i64 0, .int .i64 0, .int .i64 0, .int .i64 0, .int .i64 0] 85)) ∧ Cs wr.heap.size 85 (ks_order.map zeroV) (wr.alloc (.cells #[.string ⟨#[]⟩, .string ⟨#[]⟩, .string ⟨#[]⟩, .int .i64 0, .int .i64 0, .int .i64 0, .int .i64 0, .int .i64 0, .string ⟨#[]⟩, .int .i64 0, .int .i64 0, .int .i64 0, .int .i64 0, .int .i64 0, .string ⟨#[]⟩, .int .i64 0, .int .i64 0, .int .i64 0, .int .i64 0, .int .i64 0, .string ⟨#[]⟩, .int .i64 0, .int .i64 0, .int .i64 0, .int .i64 0, .int .i64 0, .string ⟨#[]⟩, .int .i64 0, .int .i64 0, .int .i64 0, .int .i64 0, .int .i64 0, .string ⟨#[]⟩, .int .i64 0, .int .i64 0, .int .i64 0, .int .i64 0, .int .i64 0, .string ⟨#[]⟩, .int .i64 0, .int .i64 0, .int .i64 0, .int .i64 0, .int .i64 0, .string ⟨#[]⟩, .int .i64 0, .int .i64 0, .int .i64 0, .int .i64 0, .int .i64 0] 85))) := ⟨Rw.below HI.out.rw (alloc_below _ _), cs_alloc _ _ _ _ zeros_order⟩
          have HSC : Aside0 (∀ y ∈ sc_order, y.2 < (ks_order.map zeroV).length) := ⟨by decide⟩
          refine (order_r HZ.out.1 HZ.out.2 (by omega) HSC.out (Nat.le_trans HSL.out (by decide))).mono ?_
          rintro e wE ⟨rfl, p1, p2, p3⟩
          rw [HRD.out] at p1 p2
          simp only at p1 p2
          have HE : Aside0 (Rw wb st' wE ∧ Cs wr.heap.size 85 x wE ∧ Cs hb HT (hcs.set j (.slice A i c)) wE ∧ wE.ownsRow w.heap.size 85 50 (.slice A i c) rows.length rows.flatten ∧ Fr (fun i => i = wb ∨ i = hb) w wE) := ⟨by
            have q1 : ∀ b, b < wr.heap.size → b ≠ wb → wE.heap[b]? = wr.heap[b]? := fun b hb' hbw => (p3.block b (by simp; omega) (by rintro (q | q) <;> omega)).trans ((alloc_below wr _).block b hb')
            refine ⟨p1, p2, HI.out.cs.keep (q1 hb hlh hne), own_same HI.out.row fun g hg => q1 g (HI.out.row.lt g hg).2 (fun q => own_ne HI.out.row HI.out.rw (by decide) (by rw [hg, q])), (HI.out.fr.trans (Fr.of_below (alloc_below wr _)) fun i hi => .inl hi).trans p3 fun i hi => ?_⟩
            rcases hi with rfl | rfl
            · exact .inl (.inl rfl)
            · exact .inr HI.out.fr.size⟩
          have hxl : x.length = 50 := fits_len HFX.out
          have HX1 : Aside0 (∀ v ∈ x, v.oneCell' = true) := ⟨fits_one HFX.out⟩
          clear p1 p2 p3 HZ
          have c0 : wE.cell? ⟨hb, j, none⟩ = some (.slice A i c) := by rw [HE.out.2.2.1.cell, List.getElem?_set_self hjl]
          have f0 : wE.frozen? ⟨hb, j, none⟩ = false := HE.out.2.2.1.frozen j
          have hXB : Aside0 (∀ g, (Value.slice A i c).ownBlock = some g → g < wr.heap.size) := ⟨fun g hg => (HI.out.row.lt g hg).2⟩
          have hnh : (Value.slice A i c).ownBlock ≠ some hb := own_ne HE.out.2.2.2.1 HE.out.2.2.1 (Ne.symm HNE.out.2)
          obtain ⟨XB, hxb⟩ : ∃ XB, XB = wr.heap.size := ⟨_, rfl⟩
          rw [← hxb]
          rw [← hxb] at HE hXB
          have hnx : (Value.slice A i c).ownBlock ≠ some XB := fun e => by have := hXB.out XB e; omega
          have r0 : wE.rangeAt XB 0 x := fun q v hv => by rw [Nat.zero_add, HE.out.2.1.cell]; exact hv
          have hxlt := HE.out.2.1.lt
          have hhlt := HE.out.2.2.1.lt
          have hwlt := Cs.lt HE.out.1
          have hu := Tryz.underlying85
          have hi' : (Tryz.prog.info? 85).map (·.size) = some x.length := by rw [size_order, hxl]
          have HXL := Aside0.mk hxl
          have HBS : Aside0 (w.heap.size ≤ wE.heap.size) := ⟨HE.out.2.2.2.2.size⟩
          have HXH : Aside0 (hb < XB) := ⟨by rw [hxb]; exact hlh⟩
          clear hxb hxl HI
          go_upto_region 15 with (fail)
          obtain ⟨WA, hWA⟩ : ∃ WA, WA = wE.drew.alloc (.cells x.toArray 85) := ⟨_, rfl⟩
          have HWB : Aside0 (Below wE.heap.size wE WA) := ⟨by rw [hWA]; have b := alloc_below wE (.cells x.toArray 85); exact ⟨b.os, b.tape, b.output, b.size, b.block⟩⟩
          have HRO : Aside0 (WA.ownsRow w.heap.size 85 50 (.slice A i c) i rows.flatten) := ⟨by have := HE.out.2.2.2.1.drew.alloc (.cells x.toArray 85); rw [HRL.out] at this; rw [hWA]; exact this⟩
          have HSZ : Aside0 (WA.heap.size = wE.heap.size + 1) := ⟨by rw [hWA]; simp⟩
          have HBA : Aside0 (w.heap.size ≤ WA.heap.size) := ⟨by have := HSZ.out; have := HBS.out; omega⟩
          have HRA : Aside0 (WA.rangeAt XB 0 x) := ⟨fun q v hv => by rw [World.cell?_of_block (HWB.out.block XB hxlt)]; exact r0 q v hv⟩
          have HFA : Aside0 (WA.frozen? ⟨hb, j, none⟩ = false) := ⟨by rw [World.frozen?_of_block (HWB.out.block hb hhlt)]; exact f0⟩
          have HCA : Aside0 (WA.cell? ⟨hb, j, none⟩ = some (.slice A i c)) := ⟨by rw [World.cell?_of_block (HWB.out.block hb hhlt)]; exact c0⟩
          have hxh : XB ≠ hb := fun e => by have := HXH.out; omega
          subst hWA
          refine wp_region_held_drew (S := (fun w' => w'.rangeAt XB 0 x)) (by kernel_rfl) ?_ (fun hHeld => ?_)
          · exact r0
          refine' wpAnyH_take (i := 0) (v := _) rfl (by kernel_rfl) (by kernel_rfl) (by kernel_rfl) (fun _ _ _ h => h) ?hy1 (by assumption) ?rs1
          case hy1 => exact .inl ⟨by rfl, by intro w' hSw; go_simp; (try with_reducible rfl)⟩
          (try simp only [Act.put, List.setIfInBounds_toArray, List.set_cons_zero, List.set_cons_succ, List.getElem_toArray, List.getElem_cons_zero, List.getElem_cons_succ])
          refine' wpAnyH_take (i := 1) (v := _) rfl (by kernel_rfl) (by kernel_rfl) (by kernel_rfl) (fun _ _ _ h => h) ?hy2 (by assumption) ?rs2
          case hy2 => exact .inl ⟨by rfl, by intro w' hSw; go_simp; (try with_reducible rfl)⟩
          (try simp only [Act.put, List.setIfInBounds_toArray, List.set_cons_zero, List.set_cons_succ, List.getElem_toArray, List.getElem_cons_zero, List.getElem_cons_succ])
          refine' wpAnyH_take (i := 2) (v := _) rfl (by kernel_rfl) (by kernel_rfl) (by kernel_rfl) (fun _ _ _ h => h) ?hy3 (by assumption) ?rs3
          case hy3 => exact .inl ⟨by rfl, by intro w' hSw; go_simp; (try with_reducible rfl)⟩
          (try simp only [Act.put, List.setIfInBounds_toArray, List.set_cons_zero, List.set_cons_succ, List.getElem_toArray, List.getElem_cons_zero, List.getElem_cons_succ])
          refine' wpAnyH_take (i := 4) (v := _) rfl (by kernel_rfl) (by kernel_rfl) (by kernel_rfl) (fun _ _ _ h => h) ?hy4 (by assumption) ?rs4
          case hy4 =>
            refine yieldsIf_load_mid ?ya 85 (.tmp 10) ?yb XB 0 ?yc x _ ?yd hu rfl hi'
            case ya => rfl
            case yb => rfl
            case yc => rfl
            case yd => exact fun w' hS => hS
          (try simp only [Act.put, List.setIfInBounds_toArray, List.set_cons_zero, List.set_cons_succ, List.getElem_toArray, List.getElem_cons_zero, List.getElem_cons_succ])
          refine wpAnyH_ready (rs := [3, 5]) (by kernel_rfl) (by simp) ?_
          refine AllReadyH.cons rfl (fun K hK => ?_) (AllReadyH.cons rfl (fun K hK => ?_) AllReadyH.nil)
          · go_simp
            refine hK.out _ _ ?_ (fun hHeld => ?_)
            · exact r0
            clear hK K
            (try simp only [Act.put, List.setIfInBounds_toArray, List.set_cons_zero, List.set_cons_succ, List.getElem_toArray, List.getElem_cons_zero, List.getElem_cons_succ])
            refine wpAnyH_ready (rs := [5]) (by kernel_rfl) (by simp) ?_
            refine AllReadyH.cons rfl (fun K hK => ?_) AllReadyH.nil
            refine step_build_one rfl 29 85 (.tmp 70) rfl x rfl i0 _ 50 Tryz.underlying29 hI0 hz0 hz1 HXL.out (by decide) (by decide) ?_
            refine hK.out _ _ ?_ (fun hHeld => ?_)
            · exact HRA.out
            clear hK K
            (try simp only [Act.put, List.setIfInBounds_toArray, List.set_cons_zero, List.set_cons_succ, List.getElem_toArray, List.getElem_cons_zero, List.getElem_cons_succ])
            refine wpAnyH_ready (rs := [6]) (by kernel_rfl) (by simp) ?_
            refine AllReadyH.cons rfl (fun K hK => ?_) AllReadyH.nil
            refine step_append_lies _ rfl (.tmp 69) (.tmp 71) 29 rfl w.heap.size 85 i0 _ 50 480 Tryz.underlying29 hI0 hz0 hz1 hz2 rfl (by decide) (.slice A i c) i rows.flatten rfl HRO.out ⟨wE.heap.size, 0, none⟩ 1 1 x rfl (by rw [HXL.out]) (World.news_of_block (cs := x.toArray) (t := 85) (fr := (0, 0)) (heap_alloc_new wE _)) HX1.out (by decide) (by unfold maxLen; omega) (by omega) HBA.out (wE.heap.size + 1) HSZ.out ?_
            intro gg cap w1 hown1 hgrow hat hlt1
            have HOW := Aside0.mk (And.intro hown1 (And.intro hgrow (And.intro hat hlt1)))
            have g1 : w1.rangeAt XB 0 x := fun q v hv => by
              rw [HOW.out.2.1.cell_far _ (Nat.lt_of_lt_of_le hxlt HWB.out.size) (Ne.symm hnx)]
              exact HRA.out q v hv
            have g2 : w1.frozen? ⟨hb, j, none⟩ = false := by
              rw [HOW.out.2.1.frozen_far _ (Nat.lt_of_lt_of_le hhlt HWB.out.size) (Ne.symm hnh)]
              exact HFA.out
            have g3 : w1.cell? ⟨hb, j, none⟩ = some (.slice A i c) := by
              rw [HOW.out.2.1.cell_far _ (Nat.lt_of_lt_of_le hhlt HWB.out.size) (Ne.symm hnh)]
              exact HCA.out
            clear hown1 hgrow hat
            refine hK.out _ _ ?_ (fun hHeld => ?_)
            · exact g1
            clear hK K
            (try simp only [Act.put, List.setIfInBounds_toArray, List.set_cons_zero, List.set_cons_succ, List.getElem_toArray, List.getElem_cons_zero, List.getElem_cons_succ])
            refine' wpAnyH_take (i := 7) (v := _) rfl (by kernel_rfl) (by kernel_rfl) (by kernel_rfl) (fun _ _ _ h => h) ?hy5 (by assumption) ?rs5
            case hy5 => exact .inl ⟨by rfl, by intro w' hSw; go_simp; (try with_reducible rfl)⟩
            (try simp only [Act.put, List.setIfInBounds_toArray, List.set_cons_zero, List.set_cons_succ, List.getElem_toArray, List.getElem_cons_zero, List.getElem_cons_succ])
            refine wpAnyH_ready (rs := [8]) (by kernel_rfl) (by simp) ?_
            refine AllReadyH.cons rfl (fun K hK => ?_) AllReadyH.nil
            go_simp
            refine hK.out _ _ ?_ (fun hHeld => ?_)
            · exact fun q v hv => by rw [World.cell?_of_block (Below.heap_setCell w1 ⟨hb, j, none⟩ _ XB hxh)]; exact g1 q v hv
            clear hK K
            (try simp only [Act.put, List.setIfInBounds_toArray, List.set_cons_zero, List.set_cons_succ, List.getElem_toArray, List.getElem_cons_zero, List.getElem_cons_succ])
            refine wpAnyH_done (by kernel_rfl) ?_ _
            go_wp2
            go_roundw
            case rel =>
              have hgg : (Value.slice (some ⟨gg, 0, none⟩) (i + 1) cap).ownBlock ≠ some hb := by
                intro e
                have e' : gg = hb := by simpa [Value.ownBlock] using e
                rcases HOW.out.2.2.1 with q | q
                · exact hnh (by rw [q, e'])
                · omega
              refine ⟨i + 1, st', rows ++ [x], .slice (some ⟨gg, 0, none⟩) (i + 1) cap, by omega, by simp [HRL.out], by go_num, HDL, ⟨.inr htb⟩, HNX, ⟨?_⟩⟩
              have hr' := HRL.out
              subst hr'
              exact (LRd.push (st' := st') rfl HNE.out.2 (by decide) (Rw.below HE.out.1 HWB.out) (HE.out.2.2.1.keep (HWB.out.block hb hhlt)) HRO.out (HE.out.2.2.2.2.trans (Fr.of_below HWB.out) fun i hi => .inl hi) HOW.out.1 HOW.out.2.1 HNE.out.1 hgg)
            case measure => simp [intOf]; omega
          · refine step_build_one rfl 29 85 (.tmp 70) rfl x rfl i0 _ 50 Tryz.underlying29 hI0 hz0 hz1 HXL.out (by decide) (by decide) ?_
            refine hK.out _ _ ?_ (fun hHeld => ?_)
            · exact HRA.out
            clear hK K
            (try simp only [Act.put, List.setIfInBounds_toArray, List.set_cons_zero, List.set_cons_succ, List.getElem_toArray, List.getElem_cons_zero, List.getElem_cons_succ])
            have k0 := HCA.out
            refine wpAnyH_ready (rs := [3]) (by kernel_rfl) (by simp) ?_
            refine AllReadyH.cons rfl (fun K hK => ?_) AllReadyH.nil
            go_simp
            refine hK.out _ _ ?_ (fun hHeld => ?_)
            · exact HRA.out
            clear hK K
            (try simp only [Act.put, List.setIfInBounds_toArray, List.set_cons_zero, List.set_cons_succ, List.getElem_toArray, List.getElem_cons_zero, List.getElem_cons_succ])
            refine wpAnyH_ready (rs := [6]) (by kernel_rfl) (by simp) ?_
            refine AllReadyH.cons rfl (fun K hK => ?_) AllReadyH.nil
            refine step_append_lies _ rfl (.tmp 69) (.tmp 71) 29 rfl w.heap.size 85 i0 _ 50 480 Tryz.underlying29 hI0 hz0 hz1 hz2 rfl (by decide) (.slice A i c) i rows.flatten rfl HRO.out ⟨wE.heap.size, 0, none⟩ 1 1 x rfl (by rw [HXL.out]) (World.news_of_block (cs := x.toArray) (t := 85) (fr := (0, 0)) (heap_alloc_new wE _)) HX1.out (by decide) (by unfold maxLen; omega) (by omega) HBA.out (wE.heap.size + 1) HSZ.out ?_
            intro gg cap w1 hown1 hgrow hat hlt1
            have HOW := Aside0.mk (And.intro hown1 (And.intro hgrow (And.intro hat hlt1)))
            have g1 : w1.rangeAt XB 0 x := fun q v hv => by
              rw [HOW.out.2.1.cell_far _ (Nat.lt_of_lt_of_le hxlt HWB.out.size) (Ne.symm hnx)]
              exact HRA.out q v hv
            have g2 : w1.frozen? ⟨hb, j, none⟩ = false := by
              rw [HOW.out.2.1.frozen_far _ (Nat.lt_of_lt_of_le hhlt HWB.out.size) (Ne.symm hnh)]
              exact HFA.out
            have g3 : w1.cell? ⟨hb, j, none⟩ = some (.slice A i c) := by
              rw [HOW.out.2.1.cell_far _ (Nat.lt_of_lt_of_le hhlt HWB.out.size) (Ne.symm hnh)]
              exact HCA.out
            clear hown1 hgrow hat
            refine hK.out _ _ ?_ (fun hHeld => ?_)
            · exact g1
            clear hK K
            (try simp only [Act.put, List.setIfInBounds_toArray, List.set_cons_zero, List.set_cons_succ, List.getElem_toArray, List.getElem_cons_zero, List.getElem_cons_succ])
            refine' wpAnyH_take (i := 7) (v := _) rfl (by kernel_rfl) (by kernel_rfl) (by kernel_rfl) (fun _ _ _ h => h) ?hy6 (by assumption) ?rs6
            case hy6 => exact .inl ⟨by rfl, by intro w' hSw; go_simp; (try with_reducible rfl)⟩
            (try simp only [Act.put, List.setIfInBounds_toArray, List.set_cons_zero, List.set_cons_succ, List.getElem_toArray, List.getElem_cons_zero, List.getElem_cons_succ])
            refine wpAnyH_ready (rs := [8]) (by kernel_rfl) (by simp) ?_
            refine AllReadyH.cons rfl (fun K hK => ?_) AllReadyH.nil
            go_simp
            refine hK.out _ _ ?_ (fun hHeld => ?_)
            · exact fun q v hv => by rw [World.cell?_of_block (Below.heap_setCell w1 ⟨hb, j, none⟩ _ XB hxh)]; exact g1 q v hv
            clear hK K
            (try simp only [Act.put, List.setIfInBounds_toArray, List.set_cons_zero, List.set_cons_succ, List.getElem_toArray, List.getElem_cons_zero, List.getElem_cons_succ])
            refine wpAnyH_done (by kernel_rfl) ?_ _
            go_wp2
            go_roundw
            case rel =>
              have hgg : (Value.slice (some ⟨gg, 0, none⟩) (i + 1) cap).ownBlock ≠ some hb := by
                intro e
                have e' : gg = hb := by simpa [Value.ownBlock] using e
                rcases HOW.out.2.2.1 with q | q
                · exact hnh (by rw [q, e'])
                · omega
              refine ⟨i + 1, st', rows ++ [x], .slice (some ⟨gg, 0, none⟩) (i + 1) cap, by omega, by simp [HRL.out], by go_num, HDL, ⟨.inr htb⟩, HNX, ⟨?_⟩⟩
              have hr' := HRL.out
              subst hr'
              exact (LRd.push (st' := st') rfl HNE.out.2 (by decide) (Rw.below HE.out.1 HWB.out) (HE.out.2.2.1.keep (HWB.out.block hb hhlt)) HRO.out (HE.out.2.2.2.2.trans (Fr.of_below HWB.out) fun i hi => .inl hi) HOW.out.1 HOW.out.2.1 HNE.out.1 hgg)
            case measure => simp [intOf]; omega
        · obtain rfl : i = tn := by omega
          have HFN : Aside0 (rdList ks_order s = (st, rows)) := ⟨by
            rw [HG.out, HRE.out, Nat.sub_self]
            simp [rdRows]⟩
          go_wp2
          go_end0
          refine ⟨rfl, .slice A i c, ?_⟩
          rw [HFN.out]
          exact HI.out
end Go.Proofs.YtgdoodeibcfcjaaGreat.Wire
