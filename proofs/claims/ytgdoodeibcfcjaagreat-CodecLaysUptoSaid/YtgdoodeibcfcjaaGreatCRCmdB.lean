/- The reference's CmdBytes: walked. -/
import Derived.Test.YtgdoodeibcfcjaaGreatCSameCmd
import Derived.Test.YtgdoodeibcfcjaaGreatDRPut
import Derived.Deep.RegionHeld3
import Derived.Laws.Concat
set_option linter.unusedVariables false
set_option linter.unusedSimpArgs false
namespace Go.Proofs.YtgdoodeibcfcjaaGreat.Wire
open Go.RowKit Go.Proofs.YtgdoodeibcfcjaaGreat.NumsPure Go.Proofs.YtgdoodeibcfcjaaGreat.CPure Go.Proofs.YtgdoodeibcfcjaaGreat.Own
open Go.Proofs.YtgdoodeibcfcjaaGreat.Put (digits digits_lt digits_ge)
theorem RowA.lies {w : World} {A : Option Addr} {k : K} {c : Nat} {rows : List (List Value)} (h : RowA w A 1 [k] c rows) {i : Nat} (hi : i < rows.length) : ∃ a v, A = some a ∧ IsK k v ∧ a.block < w.heap.size ∧ w.cell? (a.add i) = some v ∧ rows[i]? = some [v] := by
  obtain ⟨a, rfl, hb, hc⟩ := h.at_ (by omega)
  have hx : rows[i]? = some rows[i] := List.getElem?_eq_getElem hi
  obtain ⟨v, r, e, hk, hr⟩ := h.fits _ (List.mem_of_getElem? hx)
  obtain rfl : r = [] := hr
  have := hc i _ hx 0 v (by rw [e]; rfl)
  rw [Nat.mul_one, Nat.add_zero] at this
  exact ⟨a, v, rfl, hk, hb, this, by rw [hx, e]⟩
theorem encs_str (s : ByteArray) : encs [.string s] = textB s := by simp [encs, encV]
theorem encs_int (z : Int) : encs [.int .i64 z] = digits (foldN z) := by simp [encs, encV]
set_option maxHeartbeats 8000000 in
set_option maxRecDepth 100000 in
theorem rcmdBytes_any {op : Int} {A1 A2 : Option Addr} {c1 c2 : Nat} {R1 R2 : List (List Value)} {w : World} (h1 : RowA w A1 1 ks_str c1 R1) (h2 : RowA w A2 1 ks_int c2 R2) (hl : (enc_cmd R1 R2 op).length ≤ 140737488355328) :
    Calls Tryz.prog 11 #[.agg #[.int .i64 op, .slice A1 R1.length c1, .slice A2 R2.length c2]] w fun e w' => e = .returned (.string ⟨(enc_cmd R1 R2 op).toArray⟩) ∧ Below w.heap.size w w' := by
  obtain ⟨nt, hnt⟩ : ∃ k, k = R1.length := ⟨_, rfl⟩
  obtain ⟨ni, hni⟩ : ∃ k, k = R2.length := ⟨_, rfl⟩
  rw [← hnt, ← hni]
  have fnt : nt ≤ 100000000 := by rw [hnt]; exact h1.few
  have fni : ni ≤ 100000000 := by rw [hni]; exact h2.few
  have HN := Aside0.mk (And.intro hnt hni)
  have HL := Aside0.mk hl
  have H1 := Aside0.mk h1
  have H2 := Aside0.mk h2
  have CW := Aside0.mk (fun w => rwhole_any op w)
  have CT := Aside0.mk (fun w => rcount_any nt (by omega) w)
  have CI := Aside0.mk (fun w => rcount_any ni (by omega) w)
  obtain ⟨P1, hP1⟩ : ∃ P : ByteArray, P = ⟨(digits (foldN op)).toArray⟩ := ⟨_, rfl⟩
  obtain ⟨P2, hP2⟩ : ∃ P : ByteArray, P = ⟨(digits nt).toArray⟩ := ⟨_, rfl⟩
  obtain ⟨P3, hP3⟩ : ∃ P : ByteArray, P = ⟨(digits ni).toArray⟩ := ⟨_, rfl⟩
  rw [← hP1] at CW
  rw [← hP2] at CT
  rw [← hP3] at CI
  have HP := Aside0.mk (And.intro hP1 (And.intro hP2 hP3))
  have b1 : P1.size ≤ 10 := by rw [hP1, size_mk]; exact digits_le 9 _ (by have := clamp_bd op; unfold foldN; split <;> omega)
  have b2 : P2.size ≤ 10 := by rw [hP2, size_mk]; exact digits_le 9 _ (by omega)
  have b3 : P3.size ≤ 10 := by rw [hP3, size_mk]; exact digits_le 9 _ (by omega)
  clear h1 h2 hl hnt hni hP1 hP2 hP3
  go_enter Tryz.func11, Tryz.ntmps11
  go_wp2_with (fail)
  obtain ⟨W, hW⟩ : ∃ W, W = w.alloc (.cells #[.int .i64 op, .slice A1 nt c1, .slice A2 ni c2] 41) := ⟨_, rfl⟩
  have hB : Below w.heap.size w W := by rw [hW]; exact (Below.refl _ w).alloc (Nat.le_refl _) _
  have g0 : Cs w.heap.size 41 [.int .i64 op, .slice A1 nt c1, .slice A2 ni c2] W := by rw [hW]; exact cs_alloc w _ _ _ rfl
  have k0 := g0.cell 0
  have k1 := g0.cell 1
  have k2 := g0.cell 2
  simp only [List.getElem?_cons_zero, List.getElem?_cons_succ] at k0 k1 k2
  have HW := Aside0.mk hB
  have hwl := g0.lt
  rw [← hW]
  clear hW g0 hB
  have hadd : ∀ w, (Op.stringOp .add P1 P2).run Tryz.prog w = .ok (.string (P1 ++ P2)) w := fun w => run_string_add_sum w P1 P2 (by omega)
  have HB : Aside0 (Below W.heap.size W W.drew) := ⟨⟨rfl, rfl, rfl, Nat.le_refl _, fun _ _ => rfl⟩⟩
  have p0 : W.drew.cell? ⟨w.heap.size, 0, none⟩ = some (.int .i64 op) := k0
  have p1 : W.drew.cell? ⟨w.heap.size, 1, none⟩ = some (.slice A1 nt c1) := k1
  go_region_held3 (fun w' : World => w'.cell? ⟨w.heap.size, 0, none⟩ = some (.int .i64 op) ∧ w'.cell? ⟨w.heap.size, 1, none⟩ = some (.slice A1 nt c1)) (exact ⟨p0, p1⟩)
    ((first
      | (go_at_call 34; refine (CW.out _).mono ?_; rintro e wz ⟨rfl, hb⟩; have p0 := (hb.cell (p := ⟨w.heap.size, 0, none⟩) (Nat.lt_of_lt_of_le hwl HB.out.size)).trans p0; have p1 := (hb.cell (p := ⟨w.heap.size, 1, none⟩) (Nat.lt_of_lt_of_le hwl HB.out.size)).trans p1; have HB := Aside0.mk (HB.out.trans (hb.mono HB.out.size)); clear hb)
      | (go_at_call 32; refine (CT.out _).mono ?_; rintro e wz ⟨rfl, hb⟩; have p0 := (hb.cell (p := ⟨w.heap.size, 0, none⟩) (Nat.lt_of_lt_of_le hwl HB.out.size)).trans p0; have p1 := (hb.cell (p := ⟨w.heap.size, 1, none⟩) (Nat.lt_of_lt_of_le hwl HB.out.size)).trans p1; have HB := Aside0.mk (HB.out.trans (hb.mono HB.out.size)); clear hb)))
  all_goals
    clear hadd
    go_wp2_with (fail)
    go_loopw [3, 4] (fun v3 v4 wr => ∃ (i : Nat) (X : ByteArray), i ≤ nt ∧ v4 = .int .i64 (i : Int) ∧ v3 = .string X ∧ X.size ≤ 140737488355328 ∧ Aside0 (X = ⟨((digits (foldN op) ++ digits nt) ++ (R1.take i).flatMap encs).toArray⟩) ∧ Aside0 (Below W.heap.size W wr)) (fun _ v4 _ => nt - (intOf v4).toNat)
    case atStart => exact ⟨0, _, by omega, rfl, rfl, by rw [ByteArray.size_append]; omega, ⟨by rw [HP.out.1, HP.out.2.1, ba_append]; simp⟩, HB⟩
    case round =>
      clear HB p0 p1
      obtain ⟨i, X, hi, rfl, rfl, hX, HX, HB⟩ := hrel
      have e1 := (HB.out.cell (p := ⟨w.heap.size, 1, none⟩) hwl).trans k1
      by_cases hlt : i < nt
      · obtain ⟨a, v, ea, hk, hab, hc, hr⟩ := H1.out.lies (i := i) (by have := HN.out.1; omega)
        obtain ⟨s, rfl⟩ := hk
        have hi1 : (0 : Int) ≤ (i : Int) := by omega
        have hi2 : (i : Int) < (nt : Int) := by omega
        subst ea
        have q1 := (HB.out.cell (p := a.add i) (by rw [block_of_add]; exact Nat.lt_of_lt_of_le hab HW.out.size)).trans ((HW.out.cell (p := a.add i) (by rw [block_of_add]; exact hab)).trans hc)
        obtain ⟨Y, hY⟩ : ∃ Y : ByteArray, Y = ⟨(textB s).toArray⟩ := ⟨_, rfl⟩
        have HE : Aside0 (X ++ Y = ⟨((digits (foldN op) ++ digits nt) ++ (R1.take (i + 1)).flatMap encs).toArray⟩) := ⟨by rw [HX.out, rows_take _ _ _ hr, encs_str, ← List.append_assoc, hY]; exact ba_append _ _⟩
        have hz : (X ++ Y).size ≤ 140737488355328 := by
          rw [HE.out, size_mk]
          refine Nat.le_trans ?_ HL.out
          have hle := rows_le R1 (i + 1)
          unfold enc_cmd encRows
          simp only [List.length_append, ← HN.out.1, ← HN.out.2]
          omega
        have hy : Y.size ≤ 140737488355328 := by rw [ByteArray.size_append] at hz; omega
        have HZ := Aside0.mk hz
        have CT2 := Aside0.mk (fun w => rtext_any s (by have h9 : (textB s).length ≤ 140737488355328 := (by rw [hY, size_mk] at hy; exact hy); unfold textB at h9; rw [List.length_append] at h9; have e9 : s.data.toList.length = s.size := Array.length_toList; omega) w)
        rw [← hY] at CT2
        clear hab hc hr hY hz
        go_wp2_with (go_at_call 33; refine (CT2.out _).mono ?_; rintro e wz ⟨rfl, hb⟩; have HB2 := Aside0.mk (HB.out.trans (hb.mono HB.out.size)); clear hb)
        go_roundw
        case rel => exact ⟨i + 1, _, by omega, by go_num, rfl, HZ.out, HE, HB2⟩
        case measure => simp [intOf]; omega
      · obtain rfl : nt = i := by omega
        have ht : R1.take nt = R1 := by rw [HN.out.1]; exact List.take_length
        have HX1 : Aside0 (X ++ P3 = ⟨(digits (foldN op) ++ digits nt ++ R1.flatMap encs ++ digits ni).toArray⟩) := ⟨by rw [HX.out, ht, HP.out.2.2, ba_append]⟩
        have HZ1 : Aside0 ((X ++ P3).size ≤ 140737488355328) := ⟨by
          rw [HX1.out, size_mk]
          refine Nat.le_trans ?_ HL.out
          unfold enc_cmd encRows
          simp only [List.length_append, ← HN.out.1, ← HN.out.2]
          omega⟩
        have e2 := (HB.out.cell (p := ⟨w.heap.size, 2, none⟩) hwl).trans k2
        clear ht HX
        go_wp2_with (go_at_call 32; refine (CI.out _).mono ?_; rintro e wz ⟨rfl, hb⟩; have HB1 := Aside0.mk (HB.out.trans (hb.mono HB.out.size)); clear hb)
        have HB := HB1
        have e3 := (HB.out.cell (p := ⟨w.heap.size, 2, none⟩) hwl).trans k2
        go_loopw [3, 5] (fun v3 v4 wr => ∃ (i : Nat) (X : ByteArray), i ≤ ni ∧ v4 = .int .i64 (i : Int) ∧ v3 = .string X ∧ X.size ≤ 140737488355328 ∧ Aside0 (X = ⟨((digits (foldN op) ++ digits nt ++ R1.flatMap encs ++ digits ni) ++ (R2.take i).flatMap encs).toArray⟩) ∧ Aside0 (Below W.heap.size W wr)) (fun _ v4 _ => ni - (intOf v4).toNat)
        case atStart => exact ⟨0, _, by omega, rfl, rfl, HZ1.out, ⟨by rw [HX1.out]; simp⟩, HB⟩
        case round =>
          clear HB HB1 HX1 HZ1
          obtain ⟨i, X, hi, rfl, rfl, hX, HX, HB⟩ := hrel
          have e1 := (HB.out.cell (p := ⟨w.heap.size, 2, none⟩) hwl).trans k2
          by_cases hlt : i < ni
          · obtain ⟨a, v, ea, hk, hab, hc, hr⟩ := H2.out.lies (i := i) (by have := HN.out.2; omega)
            obtain ⟨s, rfl⟩ := hk
            have hi1 : (0 : Int) ≤ (i : Int) := by omega
            have hi2 : (i : Int) < (ni : Int) := by omega
            subst ea
            have q1 := (HB.out.cell (p := a.add i) (by rw [block_of_add]; exact Nat.lt_of_lt_of_le hab HW.out.size)).trans ((HW.out.cell (p := a.add i) (by rw [block_of_add]; exact hab)).trans hc)
            obtain ⟨Y, hY⟩ : ∃ Y : ByteArray, Y = ⟨(digits (foldN s)).toArray⟩ := ⟨_, rfl⟩
            have HE : Aside0 (X ++ Y = ⟨((digits (foldN op) ++ digits nt ++ R1.flatMap encs ++ digits ni) ++ (R2.take (i + 1)).flatMap encs).toArray⟩) := ⟨by rw [HX.out, rows_take _ _ _ hr, encs_int, ← List.append_assoc, hY]; exact ba_append _ _⟩
            have hz : (X ++ Y).size ≤ 140737488355328 := by
              rw [HE.out, size_mk]
              refine Nat.le_trans ?_ HL.out
              have hle := rows_le R2 (i + 1)
              unfold enc_cmd encRows
              simp only [List.length_append, ← HN.out.1, ← HN.out.2]
              omega
            have hy : Y.size ≤ 140737488355328 := by rw [ByteArray.size_append] at hz; omega
            have HZ := Aside0.mk hz
            have CT2 := Aside0.mk (fun w => rwhole_any s w)
            rw [← hY] at CT2
            clear hab hc hr hY hz
            go_wp2_with (go_at_call 34; refine (CT2.out _).mono ?_; rintro e wz ⟨rfl, hb⟩; have HB2 := Aside0.mk (HB.out.trans (hb.mono HB.out.size)); clear hb)
            go_roundw
            case rel => exact ⟨i + 1, _, by omega, by go_num, rfl, HZ.out, HE, HB2⟩
            case measure => simp [intOf]; omega
          · obtain rfl : ni = i := by omega
            go_wp2
            go_ret
            have ht : R2.take ni = R2 := by rw [HN.out.2]; exact List.take_length
            have hfin : (⟨((digits (foldN op) ++ digits nt ++ R1.flatMap encs ++ digits ni) ++ (R2.take ni).flatMap encs).toArray⟩ : ByteArray) = ⟨(enc_cmd R1 R2 op).toArray⟩ := by
              rw [ht]
              unfold enc_cmd encRows
              rw [← HN.out.1, ← HN.out.2]
              simp only [List.append_assoc]
            exact ⟨congrArg (fun s => Ending.returned (.string s)) (HX.out.trans hfin), HW.out.trans (HB.out.mono HW.out.size)⟩
end Go.Proofs.YtgdoodeibcfcjaaGreat.Wire
