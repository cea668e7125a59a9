/- The walk of the law CodecBack. Printed by cback.py. -/
import Derived.Test.YtgdoodeibcfcjaaCPm
import Derived.Test.YtgdoodeibcfcjaaCOpenC
import Derived.Test.YtgdoodeibcfcjaaCOpenH
import Derived.Test.YtgdoodeibcfcjaaCSameCmd
import Derived.Test.YtgdoodeibcfcjaaCAwake
set_option linter.unusedVariables false
set_option linter.unusedSimpArgs false
namespace Go.Proofs.Ytgdoodeibcfcjaa.Wire
open Go.RowKit Go.Proofs.Ytgdoodeibcfcjaa.NumsPure Go.Proofs.Ytgdoodeibcfcjaa.CPure Go.Proofs.Ytgdoodeibcfcjaa.Own
/-- What Cmd answers: the error's number and the lists spelled. -/
def CmdW (em n : Int) (T I : List (List Value)) (w : World) (e : Ending) (w' : World) : Prop := Below w.heap.size w w' ∧ ∃ A1 c1 A2 c2, e = .returned (.tuple #[.agg #[.int .i64 n, .slice A1 T.length c1, .slice A2 I.length c2], .int .i64 em]) ∧ RowA w' A1 1 ks_str c1 T ∧ RowA w' A2 1 ks_int c2 I
theorem cmdT_okW (D : List UInt8) (hl : D.length ≤ 100000000) : (∀ x ∈ cmdT D, Fits ks_str x) ∧ (cmdT D).length ≤ 100000000 := by
  by_cases h : endN (cmdS D) = 0
  · have e : cmdT D = (rdList ks_str (st_cmd_1 ⟨D, false⟩)).2 := by unfold cmdT; rw [if_pos h]
    rw [e]
    exact ⟨rdList_fits _ _, rdList_few _ _ (Nat.le_trans (st_cmd_1_len _) hl)⟩
  · have e : cmdT D = [] := by unfold cmdT; rw [if_neg h]
    rw [e]
    exact ⟨fun x hx => (by cases hx), by simp⟩
theorem cmdI_okW (D : List UInt8) (hl : D.length ≤ 100000000) : (∀ x ∈ cmdI D, Fits ks_int x) ∧ (cmdI D).length ≤ 100000000 := by
  by_cases h : endN (cmdS D) = 0
  · have e : cmdI D = (rdList ks_int (st_cmd_2 ⟨D, false⟩)).2 := by unfold cmdI; rw [if_pos h]
    rw [e]
    exact ⟨rdList_fits _ _, rdList_few _ _ (Nat.le_trans (st_cmd_2_len _) hl)⟩
  · have e : cmdI D = [] := by unfold cmdI; rw [if_neg h]
    rw [e]
    exact ⟨fun x hx => (by cases hx), by simp⟩
theorem cmd_valW {R1 R2 : List (List Value)} {op : Int} (f1 : ∀ x ∈ R1, Fits ks_str x) (f2 : ∀ x ∈ R2, Fits ks_int x) (l1 : R1.length ≤ 100000000) (l2 : R2.length ≤ 100000000) (hl : (enc_cmd R1 R2 op).length ≤ 100000000) (w : World) :
    Calls Try.prog 9 #[.string ⟨(enc_cmd R1 R2 op).toArray⟩] w (CmdW 0 (clampN op) R1 (R2.map (·.map clampV)) w) := by
  have s1 : (R1.flatMap encs).length ≤ 100000000 := by
    unfold enc_cmd encRows at hl
    simp only [List.length_append] at hl
    omega
  have s2 : (R2.flatMap encs).length ≤ 100000000 := by
    unfold enc_cmd encRows at hl
    simp only [List.length_append] at hl
    omega
  obtain ⟨k1, k2, k3, k4⟩ := cmd_back (op := op) f1 f2 (short_rows f1 s1) (short_rows f2 s2) (by omega) (by omega)
  refine (cmd_any (enc_cmd R1 R2 op) hl w).mono ?_
  rintro e w' ⟨hb, v1, v2, rfl, o1, o2⟩
  obtain ⟨A1, c1, rfl, r1⟩ := own_rowA o1 (cmdT_okW _ hl).1 rfl (cmdT_okW _ hl).2
  obtain ⟨A2, c2, rfl, r2⟩ := own_rowA o2 (cmdI_okW _ hl).1 rfl (cmdI_okW _ hl).2
  rw [k2, clamp_strs f1] at r1
  rw [k3] at r2
  refine ⟨hb, A1, c1, A2, c2, ?_, r1, r2⟩
  rw [k1, k2, k3, k4, clamp_strs f1]
theorem rowA_oneW {w : World} {b : Nat} {op : Int} (h : w.cell? ⟨b, 0, none⟩ = some (.int .i64 op)) : RowA w (some ⟨b, 0, none⟩) 1 ks_int 1 [[.int .i64 op]] := by
  refine ⟨fun _ => ⟨⟨b, 0, none⟩, rfl, World.block_lt_of_cell? w _ h, fun i x hx m v hv => ?_⟩, Nat.le_refl _, fun x hx => ?_, by simp⟩
  · have hi : i = 0 := by
      have := (List.getElem?_eq_some_iff.1 hx).1
      simp at this
      exact this
    subst hi
    obtain rfl : [Value.int .i64 op] = x := by simpa using hx
    have hm : m = 0 := by
      have := (List.getElem?_eq_some_iff.1 hv).1
      simp at this
      exact this
    subst hm
    obtain rfl : Value.int .i64 op = v := by simpa using hv
    rw [add0]
    exact h
  · obtain rfl : x = [.int .i64 op] := by simpa using hx
    exact ⟨_, [], rfl, ⟨op, rfl⟩, rfl⟩
set_option maxHeartbeats 16000000 in
set_option maxRecDepth 100000 in
theorem back_go {A0 A1 A2 A3 A4 A5 A6 A7 A8 A9 A10 A11 A12 A13 E1 E2 : Option Addr} {c0 c1 c2 c3 c4 c5 c6 c7 c8 c9 c10 c11 c12 c13 e1 e2 : Nat} {R : Nat → List (List Value)} {R1 R2 : List (List Value)} {z op : Int} {w : World} (hA : HouseA w [.slice A0 (R 0).length c0, .slice A1 (R 1).length c1, .slice A2 (R 2).length c2, .slice A3 (R 3).length c3, .slice A4 (R 4).length c4, .slice A5 (R 5).length c5, .slice A6 (R 6).length c6, .slice A7 (R 7).length c7, .slice A8 (R 8).length c8, .slice A9 (R 9).length c9, .slice A10 (R 10).length c10, .slice A11 (R 11).length c11, .slice A12 (R 12).length c12, .slice A13 (R 13).length c13, .int .i64 z] R z) (hBk : Backs R) (hlen : (encHouse R z).length ≤ 100000000) (hcl : ∀ j, j < 14 → (R j).length * szJ j ≤ 1048576)
    (h1 : RowA w E1 1 ks_str e1 R1) (h2 : RowA w E2 1 ks_int e2 R2) (hc : (enc_cmd R1 R2 op).length ≤ 100000000) :
    Calls Try.prog 4 #[.agg #[.slice A0 (R 0).length c0, .slice A1 (R 1).length c1, .slice A2 (R 2).length c2, .slice A3 (R 3).length c3, .slice A4 (R 4).length c4, .slice A5 (R 5).length c5, .slice A6 (R 6).length c6, .slice A7 (R 7).length c7, .slice A8 (R 8).length c8, .slice A9 (R 9).length c9, .slice A10 (R 10).length c10, .slice A11 (R 11).length c11, .slice A12 (R 12).length c12, .slice A13 (R 13).length c13, .int .i64 z], .agg #[.int .i64 op, .slice E1 R1.length e1, .slice E2 R2.length e2]] w (YesB w) := by
  obtain ⟨B, hB⟩ : ∃ B : ByteArray, B = ⟨(enc_cmd R1 R2 op).toArray⟩ := ⟨_, rfl⟩
  obtain ⟨BH, hBH⟩ : ∃ B : ByteArray, B = ⟨(encHouse R z).toArray⟩ := ⟨_, rfl⟩
  obtain ⟨q0, qR, qz⟩ := house_back hBk z
  have CC := Aside0.mk (fun (w : World) => cmd_valW (op := op) h1.fits h2.fits h1.few h2.few hc w)
  have FW := Aside0.mk (fun (w : World) (k1 : RowA w E1 1 ks_str e1 R1) (k2 : RowA w E2 1 ks_int e2 R2) => few_any (op := op) k1 k2 (Nat.le_trans hc (by decide)))
  have QB := Aside0.mk (fun (w : World) (k1 : RowA w E1 1 ks_str e1 R1) (k2 : RowA w E2 1 ks_int e2 R2) => cmdBytes_any (op := op) k1 k2 (Nat.le_trans hc (by decide)))
  have SM := Aside0.mk (fun (w' : World) => small_any (w := w') hA)
  have BY := Aside0.mk (fun (w' : World) (k : HouseA w' [.slice A0 (R 0).length c0, .slice A1 (R 1).length c1, .slice A2 (R 2).length c2, .slice A3 (R 3).length c3, .slice A4 (R 4).length c4, .slice A5 (R 5).length c5, .slice A6 (R 6).length c6, .slice A7 (R 7).length c7, .slice A8 (R 8).length c8, .slice A9 (R 9).length c9, .slice A10 (R 10).length c10, .slice A11 (R 11).length c11, .slice A12 (R 12).length c12, .slice A13 (R 13).length c13, .int .i64 z] R z) => bytes_any k (Nat.le_trans hlen (by decide)))
  have CH := Aside0.mk (fun (w' : World) => house_val (encHouse R z) BH hBH hlen 0 q0 w')
  have PL := Aside0.mk (fun (w' : World) (k : HouseA w' [.slice A0 (R 0).length c0, .slice A1 (R 1).length c1, .slice A2 (R 2).length c2, .slice A3 (R 3).length c3, .slice A4 (R 4).length c4, .slice A5 (R 5).length c5, .slice A6 (R 6).length c6, .slice A7 (R 7).length c7, .slice A8 (R 8).length c8, .slice A9 (R 9).length c9, .slice A10 (R 10).length c10, .slice A11 (R 11).length c11, .slice A12 (R 12).length c12, .slice A13 (R 13).length c13, .int .i64 z] R z) => plain_any k hcl)
  rw [← hB] at CC QB
  rw [← hBH] at BY
  have HA := Aside0.mk hA
  have HR := Aside0.mk (And.intro h1 h2)
  have HK := Aside0.mk (And.intro hBk (And.intro q0 (And.intro qR qz)))
  clear hA hBk hlen hcl h1 h2 hc hB hBH q0 qR qz
  go_enter Try.func4, Try.ntmps4
  go_wp2_with (fail)
  obtain ⟨W, hW⟩ : ∃ W, W = (w.alloc (.cells #[.slice A0 (R 0).length c0, .slice A1 (R 1).length c1, .slice A2 (R 2).length c2, .slice A3 (R 3).length c3, .slice A4 (R 4).length c4, .slice A5 (R 5).length c5, .slice A6 (R 6).length c6, .slice A7 (R 7).length c7, .slice A8 (R 8).length c8, .slice A9 (R 9).length c9, .slice A10 (R 10).length c10, .slice A11 (R 11).length c11, .slice A12 (R 12).length c12, .slice A13 (R 13).length c13, .int .i64 z] 37)).alloc (.cells #[.int .i64 op, .slice E1 R1.length e1, .slice E2 R2.length e2] 44) := ⟨_, rfl⟩
  have HB0 : Aside0 (Below w.heap.size w W) := ⟨by rw [hW]; exact ((Below.refl _ w).alloc (Nat.le_refl _) _).alloc (by simp) _⟩
  have gh : Cs w.heap.size 37 [.slice A0 (R 0).length c0, .slice A1 (R 1).length c1, .slice A2 (R 2).length c2, .slice A3 (R 3).length c3, .slice A4 (R 4).length c4, .slice A5 (R 5).length c5, .slice A6 (R 6).length c6, .slice A7 (R 7).length c7, .slice A8 (R 8).length c8, .slice A9 (R 9).length c9, .slice A10 (R 10).length c10, .slice A11 (R 11).length c11, .slice A12 (R 12).length c12, .slice A13 (R 13).length c13, .int .i64 z] W := by rw [hW]; exact Cs.keep (cs_alloc w _ _ _ rfl) ((alloc_below _ _).block _ (by simp))
  have gc : Cs (w.heap.size + 1) 44 [.int .i64 op, .slice E1 R1.length e1, .slice E2 R2.length e2] W := by
    rw [hW]
    have := cs_alloc (w.alloc (.cells #[.slice A0 (R 0).length c0, .slice A1 (R 1).length c1, .slice A2 (R 2).length c2, .slice A3 (R 3).length c3, .slice A4 (R 4).length c4, .slice A5 (R 5).length c5, .slice A6 (R 6).length c6, .slice A7 (R 7).length c7, .slice A8 (R 8).length c8, .slice A9 (R 9).length c9, .slice A10 (R 10).length c10, .slice A11 (R 11).length c11, .slice A12 (R 12).length c12, .slice A13 (R 13).length c13, .int .i64 z] 37)) #[.int .i64 op, .slice E1 R1.length e1, .slice E2 R2.length e2] 44 [.int .i64 op, .slice E1 R1.length e1, .slice E2 R2.length e2] rfl
    rwa [show (w.alloc (.cells #[.slice A0 (R 0).length c0, .slice A1 (R 1).length c1, .slice A2 (R 2).length c2, .slice A3 (R 3).length c3, .slice A4 (R 4).length c4, .slice A5 (R 5).length c5, .slice A6 (R 6).length c6, .slice A7 (R 7).length c7, .slice A8 (R 8).length c8, .slice A9 (R 9).length c9, .slice A10 (R 10).length c10, .slice A11 (R 11).length c11, .slice A12 (R 12).length c12, .slice A13 (R 13).length c13, .int .i64 z] 37)).heap.size = w.heap.size + 1 by simp] at this
  have G0 := Aside0.mk (And.intro gh gc)
  rw [← hW]
  clear hW gh gc
  -- Small
  refine (SM.out _).mono ?_
  rintro e w1 ⟨hr, hb⟩
  have HB1 := Aside0.mk (HB0.out.trans (hb.mono HB0.out.size))
  have G1 : Aside0 (Cs w.heap.size 37 [.slice A0 (R 0).length c0, .slice A1 (R 1).length c1, .slice A2 (R 2).length c2, .slice A3 (R 3).length c3, .slice A4 (R 4).length c4, .slice A5 (R 5).length c5, .slice A6 (R 6).length c6, .slice A7 (R 7).length c7, .slice A8 (R 8).length c8, .slice A9 (R 9).length c9, .slice A10 (R 10).length c10, .slice A11 (R 11).length c11, .slice A12 (R 12).length c12, .slice A13 (R 13).length c13, .int .i64 z] w1 ∧ Cs (w.heap.size + 1) 44 [.int .i64 op, .slice E1 R1.length e1, .slice E2 R2.length e2] w1) := ⟨Cs.keep G0.out.1 (hb.block _ G0.out.1.lt), Cs.keep G0.out.2 (hb.block _ G0.out.2.lt)⟩
  clear hb HB0 G0
  rcases hr with rfl | rfl
  rotate_left
  · as_aux_lemma =>
    clear G1
    go_wp2_with (fail)
    refine (awake_any _).mono ?_
    rintro e wz ⟨rfl, hb⟩
    go_wp2
    go_ret
    exact ⟨rfl, HB1.out.trans (hb.mono HB1.out.size)⟩
  have kc0 := G1.out.2.cell 0
  have kc1 := G1.out.2.cell 1
  have kc2 := G1.out.2.cell 2
  simp only [List.getElem?_cons_zero, List.getElem?_cons_succ] at kc0 kc1 kc2
  go_wp2_with (fail)
  clear kc0 kc1 kc2
  -- few
  refine (FW.out _ (HR.out.1.below HB1.out) (HR.out.2.below HB1.out)).mono ?_
  rintro e w2 ⟨hr, hb⟩
  have HB2 := Aside0.mk (HB1.out.trans (hb.mono HB1.out.size))
  have G2 : Aside0 (Cs w.heap.size 37 [.slice A0 (R 0).length c0, .slice A1 (R 1).length c1, .slice A2 (R 2).length c2, .slice A3 (R 3).length c3, .slice A4 (R 4).length c4, .slice A5 (R 5).length c5, .slice A6 (R 6).length c6, .slice A7 (R 7).length c7, .slice A8 (R 8).length c8, .slice A9 (R 9).length c9, .slice A10 (R 10).length c10, .slice A11 (R 11).length c11, .slice A12 (R 12).length c12, .slice A13 (R 13).length c13, .int .i64 z] w2 ∧ Cs (w.heap.size + 1) 44 [.int .i64 op, .slice E1 R1.length e1, .slice E2 R2.length e2] w2) := ⟨Cs.keep G1.out.1 (hb.block _ G1.out.1.lt), Cs.keep G1.out.2 (hb.block _ G1.out.2.lt)⟩
  clear hb HB1 G1
  rcases hr with rfl | rfl
  rotate_left
  · as_aux_lemma =>
    clear G2
    go_wp2_with (fail)
    refine (awake_any _).mono ?_
    rintro e wz ⟨rfl, hb⟩
    go_wp2
    go_ret
    exact ⟨rfl, HB2.out.trans (hb.mono HB2.out.size)⟩
  have kc0 := G2.out.2.cell 0
  have kc1 := G2.out.2.cell 1
  have kc2 := G2.out.2.cell 2
  simp only [List.getElem?_cons_zero, List.getElem?_cons_succ] at kc0 kc1 kc2
  go_wp2_with (fail)
  clear kc0 kc1 kc2
  -- CmdBytes
  refine (QB.out _ (HR.out.1.below HB2.out) (HR.out.2.below HB2.out)).mono ?_
  rintro e w3 ⟨rfl, hb⟩
  have HB3 := Aside0.mk (HB2.out.trans (hb.mono HB2.out.size))
  have G3 : Aside0 (Cs w.heap.size 37 [.slice A0 (R 0).length c0, .slice A1 (R 1).length c1, .slice A2 (R 2).length c2, .slice A3 (R 3).length c3, .slice A4 (R 4).length c4, .slice A5 (R 5).length c5, .slice A6 (R 6).length c6, .slice A7 (R 7).length c7, .slice A8 (R 8).length c8, .slice A9 (R 9).length c9, .slice A10 (R 10).length c10, .slice A11 (R 11).length c11, .slice A12 (R 12).length c12, .slice A13 (R 13).length c13, .int .i64 z] w3 ∧ Cs (w.heap.size + 1) 44 [.int .i64 op, .slice E1 R1.length e1, .slice E2 R2.length e2] w3) := ⟨Cs.keep G2.out.1 (hb.block _ G2.out.1.lt), Cs.keep G2.out.2 (hb.block _ G2.out.2.lt)⟩
  clear hb HB2 G2
  go_wp2_with (fail)
  -- Cmd
  refine (CC.out _).mono ?_
  rintro e w4 ⟨hb, D1, d1, D2, d2, rfl, r1, r2⟩
  have HB4 := Aside0.mk (HB3.out.trans (hb.mono HB3.out.size))
  have G4 : Aside0 (Cs w.heap.size 37 [.slice A0 (R 0).length c0, .slice A1 (R 1).length c1, .slice A2 (R 2).length c2, .slice A3 (R 3).length c3, .slice A4 (R 4).length c4, .slice A5 (R 5).length c5, .slice A6 (R 6).length c6, .slice A7 (R 7).length c7, .slice A8 (R 8).length c8, .slice A9 (R 9).length c9, .slice A10 (R 10).length c10, .slice A11 (R 11).length c11, .slice A12 (R 12).length c12, .slice A13 (R 13).length c13, .int .i64 z] w4 ∧ Cs (w.heap.size + 1) 44 [.int .i64 op, .slice E1 R1.length e1, .slice E2 R2.length e2] w4) := ⟨Cs.keep G3.out.1 (hb.block _ G3.out.1.lt), Cs.keep G3.out.2 (hb.block _ G3.out.2.lt)⟩
  clear hb HB3 G3
  have R4 := Aside0.mk (And.intro r1 r2)
  clear r1 r2
  have kc0 := G4.out.2.cell 0
  have kc1 := G4.out.2.cell 1
  have kc2 := G4.out.2.cell 2
  simp only [List.getElem?_cons_zero, List.getElem?_cons_succ] at kc0 kc1 kc2
  have hlt := G4.out.2.lt
  obtain ⟨R2', hR2'⟩ : ∃ X, X = R2.map (·.map clampV) := ⟨_, rfl⟩
  obtain ⟨op', hop'⟩ : ∃ X, X = clampN op := ⟨_, rfl⟩
  rw [← hR2'] at R4 ⊢
  rw [← hop']
  have HE := Aside0.mk (And.intro hR2' hop')
  clear hR2' hop'
  go_wp2_with (fail)
  clear kc0 kc1 kc2
  clear hlt
  have HB4a : Aside0 (Below w.heap.size w (w4.alloc (.cells #[.int .i64 op', .slice D1 R1.length d1, .slice D2 R2'.length d2] 44))) := ⟨HB4.out.alloc HB4.out.size _⟩
  have G4a : Aside0 ((Cs w.heap.size 37 [.slice A0 (R 0).length c0, .slice A1 (R 1).length c1, .slice A2 (R 2).length c2, .slice A3 (R 3).length c3, .slice A4 (R 4).length c4, .slice A5 (R 5).length c5, .slice A6 (R 6).length c6, .slice A7 (R 7).length c7, .slice A8 (R 8).length c8, .slice A9 (R 9).length c9, .slice A10 (R 10).length c10, .slice A11 (R 11).length c11, .slice A12 (R 12).length c12, .slice A13 (R 13).length c13, .int .i64 z] (w4.alloc (.cells #[.int .i64 op', .slice D1 R1.length d1, .slice D2 R2'.length d2] 44)) ∧ Cs (w.heap.size + 1) 44 [.int .i64 op, .slice E1 R1.length e1, .slice E2 R2.length e2] (w4.alloc (.cells #[.int .i64 op', .slice D1 R1.length d1, .slice D2 R2'.length d2] 44))) ∧ Cs w4.heap.size 44 [.int .i64 op', .slice D1 R1.length d1, .slice D2 R2'.length d2] (w4.alloc (.cells #[.int .i64 op', .slice D1 R1.length d1, .slice D2 R2'.length d2] 44))) :=
    ⟨⟨Cs.keep G4.out.1 ((alloc_below _ _).block _ G4.out.1.lt), Cs.keep G4.out.2 ((alloc_below _ _).block _ G4.out.2.lt)⟩, cs_alloc _ _ _ _ rfl⟩
  have R4a : Aside0 (RowA (w4.alloc (.cells #[.int .i64 op', .slice D1 R1.length d1, .slice D2 R2'.length d2] 44)) D1 1 ks_str d1 R1 ∧ RowA (w4.alloc (.cells #[.int .i64 op', .slice D1 R1.length d1, .slice D2 R2'.length d2] 44)) D2 1 ks_int d2 R2') := ⟨R4.out.1.below (alloc_below _ _), R4.out.2.below (alloc_below _ _)⟩
  clear G4 HB4 R4
  -- wide of the numbers
  refine (wide_any (HR.out.2.below HB4a.out)).mono ?_
  rintro e w5 ⟨hr, hb⟩
  have HB5 := Aside0.mk (HB4a.out.trans (hb.mono HB4a.out.size))
  have G5 : Aside0 ((Cs w.heap.size 37 [.slice A0 (R 0).length c0, .slice A1 (R 1).length c1, .slice A2 (R 2).length c2, .slice A3 (R 3).length c3, .slice A4 (R 4).length c4, .slice A5 (R 5).length c5, .slice A6 (R 6).length c6, .slice A7 (R 7).length c7, .slice A8 (R 8).length c8, .slice A9 (R 9).length c9, .slice A10 (R 10).length c10, .slice A11 (R 11).length c11, .slice A12 (R 12).length c12, .slice A13 (R 13).length c13, .int .i64 z] w5 ∧ Cs (w.heap.size + 1) 44 [.int .i64 op, .slice E1 R1.length e1, .slice E2 R2.length e2] w5) ∧ Cs w4.heap.size 44 [.int .i64 op', .slice D1 R1.length d1, .slice D2 R2'.length d2] w5) := ⟨⟨Cs.keep G4a.out.1.1 (hb.block _ G4a.out.1.1.lt), Cs.keep G4a.out.1.2 (hb.block _ G4a.out.1.2.lt)⟩, Cs.keep G4a.out.2 (hb.block _ G4a.out.2.lt)⟩
  have R5 : Aside0 (RowA w5 D1 1 ks_str d1 R1 ∧ RowA w5 D2 1 ks_int d2 R2') := ⟨R4a.out.1.below hb, R4a.out.2.below hb⟩
  clear hb HB4a G4a R4a
  rcases hr with ⟨rfl, hw2⟩ | rfl
  rotate_left
  · as_aux_lemma =>
    clear R5
    have kh0 := (G5.out.1).1.cell 0
    have kh1 := (G5.out.1).1.cell 1
    have kh2 := (G5.out.1).1.cell 2
    have kh3 := (G5.out.1).1.cell 3
    have kh4 := (G5.out.1).1.cell 4
    have kh5 := (G5.out.1).1.cell 5
    have kh6 := (G5.out.1).1.cell 6
    have kh7 := (G5.out.1).1.cell 7
    have kh8 := (G5.out.1).1.cell 8
    have kh9 := (G5.out.1).1.cell 9
    have kh10 := (G5.out.1).1.cell 10
    have kh11 := (G5.out.1).1.cell 11
    have kh12 := (G5.out.1).1.cell 12
    have kh13 := (G5.out.1).1.cell 13
    have kh14 := (G5.out.1).1.cell 14
    simp only [List.getElem?_cons_zero, List.getElem?_cons_succ] at kh0 kh1 kh2 kh3 kh4 kh5 kh6 kh7 kh8 kh9 kh10 kh11 kh12 kh13 kh14
    go_wp2_with (fail)
    clear kh0 kh1 kh2 kh3 kh4 kh5 kh6 kh7 kh8 kh9 kh10 kh11 kh12 kh13 kh14
    have G5 := Aside0.mk G5.out.1
    -- the house's bytes, and the house again
    refine (BY.out _ (HA.out.below HB5.out)).mono ?_
    rintro e wa ⟨rfl, hb⟩
    have HBa := Aside0.mk (HB5.out.trans (hb.mono HB5.out.size))
    have Ga : Aside0 (Cs w.heap.size 37 [.slice A0 (R 0).length c0, .slice A1 (R 1).length c1, .slice A2 (R 2).length c2, .slice A3 (R 3).length c3, .slice A4 (R 4).length c4, .slice A5 (R 5).length c5, .slice A6 (R 6).length c6, .slice A7 (R 7).length c7, .slice A8 (R 8).length c8, .slice A9 (R 9).length c9, .slice A10 (R 10).length c10, .slice A11 (R 11).length c11, .slice A12 (R 12).length c12, .slice A13 (R 13).length c13, .int .i64 z] wa) := ⟨Cs.keep G5.out.1 (hb.block _ G5.out.1.lt)⟩
    clear hb
    go_wp2_with (fail)
    as_aux_lemma =>
    refine (CH.out _).mono ?_
    rintro e wb ⟨hb, us, rfl, hU⟩
    obtain ⟨B0, b0, B1, b1, B2, b2, B3, b3, B4, b4, B5, b5, B6, b6, B7, b7, B8, b8, B9, b9, B10, b10, B11, b11, B12, b12, B13, b13, rfl, -⟩ := hU.shape
    have HBb := Aside0.mk (HBa.out.trans (hb.mono HBa.out.size))
    have Gb : Aside0 (Cs w.heap.size 37 [.slice A0 (R 0).length c0, .slice A1 (R 1).length c1, .slice A2 (R 2).length c2, .slice A3 (R 3).length c3, .slice A4 (R 4).length c4, .slice A5 (R 5).length c5, .slice A6 (R 6).length c6, .slice A7 (R 7).length c7, .slice A8 (R 8).length c8, .slice A9 (R 9).length c9, .slice A10 (R 10).length c10, .slice A11 (R 11).length c11, .slice A12 (R 12).length c12, .slice A13 (R 13).length c13, .int .i64 z] wb) := ⟨Cs.keep Ga.out (hb.block _ Ga.out.lt)⟩
    have HU := Aside0.mk hU
    clear hb hU
    have kh0 := Gb.out.cell 0
    have kh1 := Gb.out.cell 1
    have kh2 := Gb.out.cell 2
    have kh3 := Gb.out.cell 3
    have kh4 := Gb.out.cell 4
    have kh5 := Gb.out.cell 5
    have kh6 := Gb.out.cell 6
    have kh7 := Gb.out.cell 7
    have kh8 := Gb.out.cell 8
    have kh9 := Gb.out.cell 9
    have kh10 := Gb.out.cell 10
    have kh11 := Gb.out.cell 11
    have kh12 := Gb.out.cell 12
    have kh13 := Gb.out.cell 13
    have kh14 := Gb.out.cell 14
    simp only [List.getElem?_cons_zero, List.getElem?_cons_succ] at kh0 kh1 kh2 kh3 kh4 kh5 kh6 kh7 kh8 kh9 kh10 kh11 kh12 kh13 kh14
    have hlt := Gb.out.lt
    obtain ⟨Rb, hRb⟩ : ∃ X, X = hR (encHouse R z) := ⟨_, rfl⟩
    obtain ⟨zb, hzb⟩ : ∃ X, X = hZ (encHouse R z) := ⟨_, rfl⟩
    rw [← hRb, ← hzb] at HU ⊢
    have HV := Aside0.mk (And.intro hRb hzb)
    clear hRb hzb
    go_wp2_with (fail)
    clear kh0 kh1 kh2 kh3 kh4 kh5 kh6 kh7 kh8 kh9 kh10 kh11 kh12 kh13 kh14 hlt
    have HBc : Aside0 (Below w.heap.size w (wb.alloc (.cells #[.slice B0 (Rb 0).length b0, .slice B1 (Rb 1).length b1, .slice B2 (Rb 2).length b2, .slice B3 (Rb 3).length b3, .slice B4 (Rb 4).length b4, .slice B5 (Rb 5).length b5, .slice B6 (Rb 6).length b6, .slice B7 (Rb 7).length b7, .slice B8 (Rb 8).length b8, .slice B9 (Rb 9).length b9, .slice B10 (Rb 10).length b10, .slice B11 (Rb 11).length b11, .slice B12 (Rb 12).length b12, .slice B13 (Rb 13).length b13, .int .i64 zb] 37))) := ⟨HBb.out.alloc HBb.out.size _⟩
    refine (PL.out _ (HA.out.below HBc.out)).mono ?_
    rintro e wd ⟨hr, hb⟩
    have HBd := Aside0.mk (HBc.out.trans (hb.mono HBc.out.size))
    have hbb : Below wb.heap.size wb wd := (alloc_below wb _).trans (hb.mono (by simp))
    have Gd : Aside0 (Cs w.heap.size 37 [.slice A0 (R 0).length c0, .slice A1 (R 1).length c1, .slice A2 (R 2).length c2, .slice A3 (R 3).length c3, .slice A4 (R 4).length c4, .slice A5 (R 5).length c5, .slice A6 (R 6).length c6, .slice A7 (R 7).length c7, .slice A8 (R 8).length c8, .slice A9 (R 9).length c9, .slice A10 (R 10).length c10, .slice A11 (R 11).length c11, .slice A12 (R 12).length c12, .slice A13 (R 13).length c13, .int .i64 z] wd ∧ Cs wb.heap.size 37 [.slice B0 (Rb 0).length b0, .slice B1 (Rb 1).length b1, .slice B2 (Rb 2).length b2, .slice B3 (Rb 3).length b3, .slice B4 (Rb 4).length b4, .slice B5 (Rb 5).length b5, .slice B6 (Rb 6).length b6, .slice B7 (Rb 7).length b7, .slice B8 (Rb 8).length b8, .slice B9 (Rb 9).length b9, .slice B10 (Rb 10).length b10, .slice B11 (Rb 11).length b11, .slice B12 (Rb 12).length b12, .slice B13 (Rb 13).length b13, .int .i64 zb] wd) := ⟨Cs.keep Gb.out (hbb.block _ Gb.out.lt), Cs.keep (cs_alloc wb _ _ _ rfl) (hb.block _ (by simp))⟩
    have HUd := Aside0.mk (HU.out.below hbb)
    clear hb hbb
    rcases hr with ⟨rfl, hwid⟩ | rfl
    rotate_left
    · as_aux_lemma =>
      go_wp2_with (fail)
      refine (awake_any _).mono ?_
      rintro e wz ⟨rfl, hb⟩
      go_wp2
      go_ret
      exact ⟨rfl, HBd.out.trans (hb.mono HBd.out.size)⟩
    have HX : Aside0 ((∀ j, j < 14 → Rb j = R j) ∧ zb = z) := by
      obtain ⟨x1, x2⟩ := clamp_house HK.out.1 hwid
      exact ⟨⟨fun j hj => by rw [HV.out.1, HK.out.2.2.1 j hj, x1 j hj], by rw [HV.out.2, HK.out.2.2.2, x2]⟩⟩
    clear hwid
    have kh0 := Gd.out.1.cell 0
    have ku0 := Gd.out.2.cell 0
    have kh1 := Gd.out.1.cell 1
    have ku1 := Gd.out.2.cell 1
    have kh2 := Gd.out.1.cell 2
    have ku2 := Gd.out.2.cell 2
    have kh3 := Gd.out.1.cell 3
    have ku3 := Gd.out.2.cell 3
    have kh4 := Gd.out.1.cell 4
    have ku4 := Gd.out.2.cell 4
    have kh5 := Gd.out.1.cell 5
    have ku5 := Gd.out.2.cell 5
    have kh6 := Gd.out.1.cell 6
    have ku6 := Gd.out.2.cell 6
    have kh7 := Gd.out.1.cell 7
    have ku7 := Gd.out.2.cell 7
    have kh8 := Gd.out.1.cell 8
    have ku8 := Gd.out.2.cell 8
    have kh9 := Gd.out.1.cell 9
    have ku9 := Gd.out.2.cell 9
    have kh10 := Gd.out.1.cell 10
    have ku10 := Gd.out.2.cell 10
    have kh11 := Gd.out.1.cell 11
    have ku11 := Gd.out.2.cell 11
    have kh12 := Gd.out.1.cell 12
    have ku12 := Gd.out.2.cell 12
    have kh13 := Gd.out.1.cell 13
    have ku13 := Gd.out.2.cell 13
    have kh14 := Gd.out.1.cell 14
    have ku14 := Gd.out.2.cell 14
    simp only [List.getElem?_cons_zero, List.getElem?_cons_succ] at kh0 ku0 kh1 ku1 kh2 ku2 kh3 ku3 kh4 ku4 kh5 ku5 kh6 ku6 kh7 ku7 kh8 ku8 kh9 ku9 kh10 ku10 kh11 ku11 kh12 ku12 kh13 ku13 kh14 ku14
    go_wp2_with (fail)
    clear kh0 ku0 kh1 ku1 kh2 ku2 kh3 ku3 kh4 ku4 kh5 ku5 kh6 ku6 kh7 ku7 kh8 ku8 kh9 ku9 kh10 ku10 kh11 ku11 kh12 ku12 kh13 ku13 kh14 ku14
    refine (Same_any (HUd.out.to HX.out.1 HX.out.2) (HA.out.below HBd.out)).mono ?_
    rintro e we ⟨rfl, hb⟩
    have HBe := Aside0.mk (HBd.out.trans (hb.mono HBd.out.size))
    clear hb
    go_wp2_with (fail)
    refine (awake_any _).mono ?_
    rintro e wz ⟨rfl, hb⟩
    go_wp2
    go_ret
    exact ⟨rfl, HBe.out.trans (hb.mono HBe.out.size)⟩
  as_aux_lemma =>
  have kc0 := (G5.out.1).2.cell 0
  have kc1 := (G5.out.1).2.cell 1
  have kc2 := (G5.out.1).2.cell 2
  simp only [List.getElem?_cons_zero, List.getElem?_cons_succ] at kc0 kc1 kc2
  go_wp2_with (fail)
  clear kc0 kc1 kc2
  have HB5a : Aside0 (Below w.heap.size w (w5.alloc (.cells #[.int .i64 op] 3))) := ⟨HB5.out.alloc HB5.out.size _⟩
  have k1 : (w5.alloc (.cells #[.int .i64 op] 3)).cell? ⟨w5.heap.size, 0, none⟩ = some (.int .i64 op) := (cs_alloc (T := 3) w5 #[.int .i64 op] [.int .i64 op] rfl).cell 0
  refine (wide_any (rowA_oneW k1)).mono ?_
  clear k1
  rintro e w6 ⟨hr, hb⟩
  have HB6 := Aside0.mk (HB5a.out.trans (hb.mono HB5a.out.size))
  have hb5 : Below w5.heap.size w5 w6 := (alloc_below w5 _).trans (hb.mono (by simp))
  have G6 : Aside0 ((Cs w.heap.size 37 [.slice A0 (R 0).length c0, .slice A1 (R 1).length c1, .slice A2 (R 2).length c2, .slice A3 (R 3).length c3, .slice A4 (R 4).length c4, .slice A5 (R 5).length c5, .slice A6 (R 6).length c6, .slice A7 (R 7).length c7, .slice A8 (R 8).length c8, .slice A9 (R 9).length c9, .slice A10 (R 10).length c10, .slice A11 (R 11).length c11, .slice A12 (R 12).length c12, .slice A13 (R 13).length c13, .int .i64 z] w6 ∧ Cs (w.heap.size + 1) 44 [.int .i64 op, .slice E1 R1.length e1, .slice E2 R2.length e2] w6) ∧ Cs w4.heap.size 44 [.int .i64 op', .slice D1 R1.length d1, .slice D2 R2'.length d2] w6) := ⟨⟨Cs.keep G5.out.1.1 (hb5.block _ G5.out.1.1.lt), Cs.keep G5.out.1.2 (hb5.block _ G5.out.1.2.lt)⟩, Cs.keep G5.out.2 (hb5.block _ G5.out.2.lt)⟩
  have R6 : Aside0 (RowA w6 D1 1 ks_str d1 R1 ∧ RowA w6 D2 1 ks_int d2 R2') := ⟨R5.out.1.below hb5, R5.out.2.below hb5⟩
  clear hb hb5 G5 R5 HB5 HB5a
  rcases hr with ⟨rfl, hw1⟩ | rfl
  rotate_left
  · as_aux_lemma =>
    clear R6
    have kh0 := (G6.out.1).1.cell 0
    have kh1 := (G6.out.1).1.cell 1
    have kh2 := (G6.out.1).1.cell 2
    have kh3 := (G6.out.1).1.cell 3
    have kh4 := (G6.out.1).1.cell 4
    have kh5 := (G6.out.1).1.cell 5
    have kh6 := (G6.out.1).1.cell 6
    have kh7 := (G6.out.1).1.cell 7
    have kh8 := (G6.out.1).1.cell 8
    have kh9 := (G6.out.1).1.cell 9
    have kh10 := (G6.out.1).1.cell 10
    have kh11 := (G6.out.1).1.cell 11
    have kh12 := (G6.out.1).1.cell 12
    have kh13 := (G6.out.1).1.cell 13
    have kh14 := (G6.out.1).1.cell 14
    simp only [List.getElem?_cons_zero, List.getElem?_cons_succ] at kh0 kh1 kh2 kh3 kh4 kh5 kh6 kh7 kh8 kh9 kh10 kh11 kh12 kh13 kh14
    go_wp2_with (fail)
    clear kh0 kh1 kh2 kh3 kh4 kh5 kh6 kh7 kh8 kh9 kh10 kh11 kh12 kh13 kh14
    have G6 := Aside0.mk G6.out.1
    -- the house's bytes, and the house again
    refine (BY.out _ (HA.out.below HB6.out)).mono ?_
    rintro e wa ⟨rfl, hb⟩
    have HBa := Aside0.mk (HB6.out.trans (hb.mono HB6.out.size))
    have Ga : Aside0 (Cs w.heap.size 37 [.slice A0 (R 0).length c0, .slice A1 (R 1).length c1, .slice A2 (R 2).length c2, .slice A3 (R 3).length c3, .slice A4 (R 4).length c4, .slice A5 (R 5).length c5, .slice A6 (R 6).length c6, .slice A7 (R 7).length c7, .slice A8 (R 8).length c8, .slice A9 (R 9).length c9, .slice A10 (R 10).length c10, .slice A11 (R 11).length c11, .slice A12 (R 12).length c12, .slice A13 (R 13).length c13, .int .i64 z] wa) := ⟨Cs.keep G6.out.1 (hb.block _ G6.out.1.lt)⟩
    clear hb
    go_wp2_with (fail)
    as_aux_lemma =>
    refine (CH.out _).mono ?_
    rintro e wb ⟨hb, us, rfl, hU⟩
    obtain ⟨B0, b0, B1, b1, B2, b2, B3, b3, B4, b4, B5, b5, B6, b6, B7, b7, B8, b8, B9, b9, B10, b10, B11, b11, B12, b12, B13, b13, rfl, -⟩ := hU.shape
    have HBb := Aside0.mk (HBa.out.trans (hb.mono HBa.out.size))
    have Gb : Aside0 (Cs w.heap.size 37 [.slice A0 (R 0).length c0, .slice A1 (R 1).length c1, .slice A2 (R 2).length c2, .slice A3 (R 3).length c3, .slice A4 (R 4).length c4, .slice A5 (R 5).length c5, .slice A6 (R 6).length c6, .slice A7 (R 7).length c7, .slice A8 (R 8).length c8, .slice A9 (R 9).length c9, .slice A10 (R 10).length c10, .slice A11 (R 11).length c11, .slice A12 (R 12).length c12, .slice A13 (R 13).length c13, .int .i64 z] wb) := ⟨Cs.keep Ga.out (hb.block _ Ga.out.lt)⟩
    have HU := Aside0.mk hU
    clear hb hU
    have kh0 := Gb.out.cell 0
    have kh1 := Gb.out.cell 1
    have kh2 := Gb.out.cell 2
    have kh3 := Gb.out.cell 3
    have kh4 := Gb.out.cell 4
    have kh5 := Gb.out.cell 5
    have kh6 := Gb.out.cell 6
    have kh7 := Gb.out.cell 7
    have kh8 := Gb.out.cell 8
    have kh9 := Gb.out.cell 9
    have kh10 := Gb.out.cell 10
    have kh11 := Gb.out.cell 11
    have kh12 := Gb.out.cell 12
    have kh13 := Gb.out.cell 13
    have kh14 := Gb.out.cell 14
    simp only [List.getElem?_cons_zero, List.getElem?_cons_succ] at kh0 kh1 kh2 kh3 kh4 kh5 kh6 kh7 kh8 kh9 kh10 kh11 kh12 kh13 kh14
    have hlt := Gb.out.lt
    obtain ⟨Rb, hRb⟩ : ∃ X, X = hR (encHouse R z) := ⟨_, rfl⟩
    obtain ⟨zb, hzb⟩ : ∃ X, X = hZ (encHouse R z) := ⟨_, rfl⟩
    rw [← hRb, ← hzb] at HU ⊢
    have HV := Aside0.mk (And.intro hRb hzb)
    clear hRb hzb
    go_wp2_with (fail)
    clear kh0 kh1 kh2 kh3 kh4 kh5 kh6 kh7 kh8 kh9 kh10 kh11 kh12 kh13 kh14 hlt
    have HBc : Aside0 (Below w.heap.size w (wb.alloc (.cells #[.slice B0 (Rb 0).length b0, .slice B1 (Rb 1).length b1, .slice B2 (Rb 2).length b2, .slice B3 (Rb 3).length b3, .slice B4 (Rb 4).length b4, .slice B5 (Rb 5).length b5, .slice B6 (Rb 6).length b6, .slice B7 (Rb 7).length b7, .slice B8 (Rb 8).length b8, .slice B9 (Rb 9).length b9, .slice B10 (Rb 10).length b10, .slice B11 (Rb 11).length b11, .slice B12 (Rb 12).length b12, .slice B13 (Rb 13).length b13, .int .i64 zb] 37))) := ⟨HBb.out.alloc HBb.out.size _⟩
    refine (PL.out _ (HA.out.below HBc.out)).mono ?_
    rintro e wd ⟨hr, hb⟩
    have HBd := Aside0.mk (HBc.out.trans (hb.mono HBc.out.size))
    have hbb : Below wb.heap.size wb wd := (alloc_below wb _).trans (hb.mono (by simp))
    have Gd : Aside0 (Cs w.heap.size 37 [.slice A0 (R 0).length c0, .slice A1 (R 1).length c1, .slice A2 (R 2).length c2, .slice A3 (R 3).length c3, .slice A4 (R 4).length c4, .slice A5 (R 5).length c5, .slice A6 (R 6).length c6, .slice A7 (R 7).length c7, .slice A8 (R 8).length c8, .slice A9 (R 9).length c9, .slice A10 (R 10).length c10, .slice A11 (R 11).length c11, .slice A12 (R 12).length c12, .slice A13 (R 13).length c13, .int .i64 z] wd ∧ Cs wb.heap.size 37 [.slice B0 (Rb 0).length b0, .slice B1 (Rb 1).length b1, .slice B2 (Rb 2).length b2, .slice B3 (Rb 3).length b3, .slice B4 (Rb 4).length b4, .slice B5 (Rb 5).length b5, .slice B6 (Rb 6).length b6, .slice B7 (Rb 7).length b7, .slice B8 (Rb 8).length b8, .slice B9 (Rb 9).length b9, .slice B10 (Rb 10).length b10, .slice B11 (Rb 11).length b11, .slice B12 (Rb 12).length b12, .slice B13 (Rb 13).length b13, .int .i64 zb] wd) := ⟨Cs.keep Gb.out (hbb.block _ Gb.out.lt), Cs.keep (cs_alloc wb _ _ _ rfl) (hb.block _ (by simp))⟩
    have HUd := Aside0.mk (HU.out.below hbb)
    clear hb hbb
    rcases hr with ⟨rfl, hwid⟩ | rfl
    rotate_left
    · as_aux_lemma =>
      go_wp2_with (fail)
      refine (awake_any _).mono ?_
      rintro e wz ⟨rfl, hb⟩
      go_wp2
      go_ret
      exact ⟨rfl, HBd.out.trans (hb.mono HBd.out.size)⟩
    have HX : Aside0 ((∀ j, j < 14 → Rb j = R j) ∧ zb = z) := by
      obtain ⟨x1, x2⟩ := clamp_house HK.out.1 hwid
      exact ⟨⟨fun j hj => by rw [HV.out.1, HK.out.2.2.1 j hj, x1 j hj], by rw [HV.out.2, HK.out.2.2.2, x2]⟩⟩
    clear hwid
    have kh0 := Gd.out.1.cell 0
    have ku0 := Gd.out.2.cell 0
    have kh1 := Gd.out.1.cell 1
    have ku1 := Gd.out.2.cell 1
    have kh2 := Gd.out.1.cell 2
    have ku2 := Gd.out.2.cell 2
    have kh3 := Gd.out.1.cell 3
    have ku3 := Gd.out.2.cell 3
    have kh4 := Gd.out.1.cell 4
    have ku4 := Gd.out.2.cell 4
    have kh5 := Gd.out.1.cell 5
    have ku5 := Gd.out.2.cell 5
    have kh6 := Gd.out.1.cell 6
    have ku6 := Gd.out.2.cell 6
    have kh7 := Gd.out.1.cell 7
    have ku7 := Gd.out.2.cell 7
    have kh8 := Gd.out.1.cell 8
    have ku8 := Gd.out.2.cell 8
    have kh9 := Gd.out.1.cell 9
    have ku9 := Gd.out.2.cell 9
    have kh10 := Gd.out.1.cell 10
    have ku10 := Gd.out.2.cell 10
    have kh11 := Gd.out.1.cell 11
    have ku11 := Gd.out.2.cell 11
    have kh12 := Gd.out.1.cell 12
    have ku12 := Gd.out.2.cell 12
    have kh13 := Gd.out.1.cell 13
    have ku13 := Gd.out.2.cell 13
    have kh14 := Gd.out.1.cell 14
    have ku14 := Gd.out.2.cell 14
    simp only [List.getElem?_cons_zero, List.getElem?_cons_succ] at kh0 ku0 kh1 ku1 kh2 ku2 kh3 ku3 kh4 ku4 kh5 ku5 kh6 ku6 kh7 ku7 kh8 ku8 kh9 ku9 kh10 ku10 kh11 ku11 kh12 ku12 kh13 ku13 kh14 ku14
    go_wp2_with (fail)
    clear kh0 ku0 kh1 ku1 kh2 ku2 kh3 ku3 kh4 ku4 kh5 ku5 kh6 ku6 kh7 ku7 kh8 ku8 kh9 ku9 kh10 ku10 kh11 ku11 kh12 ku12 kh13 ku13 kh14 ku14
    refine (Same_any (HUd.out.to HX.out.1 HX.out.2) (HA.out.below HBd.out)).mono ?_
    rintro e we ⟨rfl, hb⟩
    have HBe := Aside0.mk (HBd.out.trans (hb.mono HBd.out.size))
    clear hb
    go_wp2_with (fail)
    refine (awake_any _).mono ?_
    rintro e wz ⟨rfl, hb⟩
    go_wp2
    go_ret
    exact ⟨rfl, HBe.out.trans (hb.mono HBe.out.size)⟩
  as_aux_lemma =>
  have eop : op = op' := (HE.out.2.trans (clamp_id (hw1 op (by simp)).1 (hw1 op (by simp)).2)).symm
  have eR : R2 = R2' := (HE.out.1.trans (clamp_ints HR.out.2.fits hw2)).symm
  clear HE
  subst eop
  subst eR
  have HW2 := Aside0.mk hw2
  clear hw1 hw2
  have kc0 := (G6.out.1).2.cell 0
  have kc1 := (G6.out.1).2.cell 1
  have kc2 := (G6.out.1).2.cell 2
  simp only [List.getElem?_cons_zero, List.getElem?_cons_succ] at kc0 kc1 kc2
  have kd0 := G6.out.2.cell 0
  have kd1 := G6.out.2.cell 1
  have kd2 := G6.out.2.cell 2
  simp only [List.getElem?_cons_zero, List.getElem?_cons_succ] at kd0 kd1 kd2
  go_wp2_with (fail)
  clear kc0 kc1 kc2
  clear kd0 kd1 kd2
  refine (sameCmd_any (HR.out.1.below HB6.out) (HR.out.2.below HB6.out) R6.out.1 R6.out.2).mono ?_
  rintro e w7 ⟨rfl, hb⟩
  have G6 := Aside0.mk G6.out.1
  have HB7 := Aside0.mk (HB6.out.trans (hb.mono HB6.out.size))
  have G7 : Aside0 (Cs w.heap.size 37 [.slice A0 (R 0).length c0, .slice A1 (R 1).length c1, .slice A2 (R 2).length c2, .slice A3 (R 3).length c3, .slice A4 (R 4).length c4, .slice A5 (R 5).length c5, .slice A6 (R 6).length c6, .slice A7 (R 7).length c7, .slice A8 (R 8).length c8, .slice A9 (R 9).length c9, .slice A10 (R 10).length c10, .slice A11 (R 11).length c11, .slice A12 (R 12).length c12, .slice A13 (R 13).length c13, .int .i64 z] w7 ∧ Cs (w.heap.size + 1) 44 [.int .i64 op, .slice E1 R1.length e1, .slice E2 R2.length e2] w7) := ⟨Cs.keep G6.out.1 (hb.block _ G6.out.1.lt), Cs.keep G6.out.2 (hb.block _ G6.out.2.lt)⟩
  clear hb HB6 G6
  as_aux_lemma =>
  have kh0 := G7.out.1.cell 0
  have kh1 := G7.out.1.cell 1
  have kh2 := G7.out.1.cell 2
  have kh3 := G7.out.1.cell 3
  have kh4 := G7.out.1.cell 4
  have kh5 := G7.out.1.cell 5
  have kh6 := G7.out.1.cell 6
  have kh7 := G7.out.1.cell 7
  have kh8 := G7.out.1.cell 8
  have kh9 := G7.out.1.cell 9
  have kh10 := G7.out.1.cell 10
  have kh11 := G7.out.1.cell 11
  have kh12 := G7.out.1.cell 12
  have kh13 := G7.out.1.cell 13
  have kh14 := G7.out.1.cell 14
  simp only [List.getElem?_cons_zero, List.getElem?_cons_succ] at kh0 kh1 kh2 kh3 kh4 kh5 kh6 kh7 kh8 kh9 kh10 kh11 kh12 kh13 kh14
  go_wp2_with (fail)
  clear kh0 kh1 kh2 kh3 kh4 kh5 kh6 kh7 kh8 kh9 kh10 kh11 kh12 kh13 kh14
  -- the house's bytes, and the house again
  refine (BY.out _ (HA.out.below HB7.out)).mono ?_
  rintro e wa ⟨rfl, hb⟩
  have HBa := Aside0.mk (HB7.out.trans (hb.mono HB7.out.size))
  have Ga : Aside0 (Cs w.heap.size 37 [.slice A0 (R 0).length c0, .slice A1 (R 1).length c1, .slice A2 (R 2).length c2, .slice A3 (R 3).length c3, .slice A4 (R 4).length c4, .slice A5 (R 5).length c5, .slice A6 (R 6).length c6, .slice A7 (R 7).length c7, .slice A8 (R 8).length c8, .slice A9 (R 9).length c9, .slice A10 (R 10).length c10, .slice A11 (R 11).length c11, .slice A12 (R 12).length c12, .slice A13 (R 13).length c13, .int .i64 z] wa) := ⟨Cs.keep G7.out.1 (hb.block _ G7.out.1.lt)⟩
  clear hb
  go_wp2_with (fail)
  as_aux_lemma =>
  refine (CH.out _).mono ?_
  rintro e wb ⟨hb, us, rfl, hU⟩
  obtain ⟨B0, b0, B1, b1, B2, b2, B3, b3, B4, b4, B5, b5, B6, b6, B7, b7, B8, b8, B9, b9, B10, b10, B11, b11, B12, b12, B13, b13, rfl, -⟩ := hU.shape
  have HBb := Aside0.mk (HBa.out.trans (hb.mono HBa.out.size))
  have Gb : Aside0 (Cs w.heap.size 37 [.slice A0 (R 0).length c0, .slice A1 (R 1).length c1, .slice A2 (R 2).length c2, .slice A3 (R 3).length c3, .slice A4 (R 4).length c4, .slice A5 (R 5).length c5, .slice A6 (R 6).length c6, .slice A7 (R 7).length c7, .slice A8 (R 8).length c8, .slice A9 (R 9).length c9, .slice A10 (R 10).length c10, .slice A11 (R 11).length c11, .slice A12 (R 12).length c12, .slice A13 (R 13).length c13, .int .i64 z] wb) := ⟨Cs.keep Ga.out (hb.block _ Ga.out.lt)⟩
  have HU := Aside0.mk hU
  clear hb hU
  have kh0 := Gb.out.cell 0
  have kh1 := Gb.out.cell 1
  have kh2 := Gb.out.cell 2
  have kh3 := Gb.out.cell 3
  have kh4 := Gb.out.cell 4
  have kh5 := Gb.out.cell 5
  have kh6 := Gb.out.cell 6
  have kh7 := Gb.out.cell 7
  have kh8 := Gb.out.cell 8
  have kh9 := Gb.out.cell 9
  have kh10 := Gb.out.cell 10
  have kh11 := Gb.out.cell 11
  have kh12 := Gb.out.cell 12
  have kh13 := Gb.out.cell 13
  have kh14 := Gb.out.cell 14
  simp only [List.getElem?_cons_zero, List.getElem?_cons_succ] at kh0 kh1 kh2 kh3 kh4 kh5 kh6 kh7 kh8 kh9 kh10 kh11 kh12 kh13 kh14
  have hlt := Gb.out.lt
  obtain ⟨Rb, hRb⟩ : ∃ X, X = hR (encHouse R z) := ⟨_, rfl⟩
  obtain ⟨zb, hzb⟩ : ∃ X, X = hZ (encHouse R z) := ⟨_, rfl⟩
  rw [← hRb, ← hzb] at HU ⊢
  have HV := Aside0.mk (And.intro hRb hzb)
  clear hRb hzb
  go_wp2_with (fail)
  clear kh0 kh1 kh2 kh3 kh4 kh5 kh6 kh7 kh8 kh9 kh10 kh11 kh12 kh13 kh14 hlt
  have HBc : Aside0 (Below w.heap.size w (wb.alloc (.cells #[.slice B0 (Rb 0).length b0, .slice B1 (Rb 1).length b1, .slice B2 (Rb 2).length b2, .slice B3 (Rb 3).length b3, .slice B4 (Rb 4).length b4, .slice B5 (Rb 5).length b5, .slice B6 (Rb 6).length b6, .slice B7 (Rb 7).length b7, .slice B8 (Rb 8).length b8, .slice B9 (Rb 9).length b9, .slice B10 (Rb 10).length b10, .slice B11 (Rb 11).length b11, .slice B12 (Rb 12).length b12, .slice B13 (Rb 13).length b13, .int .i64 zb] 37))) := ⟨HBb.out.alloc HBb.out.size _⟩
  refine (PL.out _ (HA.out.below HBc.out)).mono ?_
  rintro e wd ⟨hr, hb⟩
  have HBd := Aside0.mk (HBc.out.trans (hb.mono HBc.out.size))
  have hbb : Below wb.heap.size wb wd := (alloc_below wb _).trans (hb.mono (by simp))
  have Gd : Aside0 (Cs w.heap.size 37 [.slice A0 (R 0).length c0, .slice A1 (R 1).length c1, .slice A2 (R 2).length c2, .slice A3 (R 3).length c3, .slice A4 (R 4).length c4, .slice A5 (R 5).length c5, .slice A6 (R 6).length c6, .slice A7 (R 7).length c7, .slice A8 (R 8).length c8, .slice A9 (R 9).length c9, .slice A10 (R 10).length c10, .slice A11 (R 11).length c11, .slice A12 (R 12).length c12, .slice A13 (R 13).length c13, .int .i64 z] wd ∧ Cs wb.heap.size 37 [.slice B0 (Rb 0).length b0, .slice B1 (Rb 1).length b1, .slice B2 (Rb 2).length b2, .slice B3 (Rb 3).length b3, .slice B4 (Rb 4).length b4, .slice B5 (Rb 5).length b5, .slice B6 (Rb 6).length b6, .slice B7 (Rb 7).length b7, .slice B8 (Rb 8).length b8, .slice B9 (Rb 9).length b9, .slice B10 (Rb 10).length b10, .slice B11 (Rb 11).length b11, .slice B12 (Rb 12).length b12, .slice B13 (Rb 13).length b13, .int .i64 zb] wd) := ⟨Cs.keep Gb.out (hbb.block _ Gb.out.lt), Cs.keep (cs_alloc wb _ _ _ rfl) (hb.block _ (by simp))⟩
  have HUd := Aside0.mk (HU.out.below hbb)
  clear hb hbb
  rcases hr with ⟨rfl, hwid⟩ | rfl
  rotate_left
  · as_aux_lemma =>
    go_wp2_with (fail)
    refine (awake_any _).mono ?_
    rintro e wz ⟨rfl, hb⟩
    go_wp2
    go_ret
    exact ⟨rfl, HBd.out.trans (hb.mono HBd.out.size)⟩
  have HX : Aside0 ((∀ j, j < 14 → Rb j = R j) ∧ zb = z) := by
    obtain ⟨x1, x2⟩ := clamp_house HK.out.1 hwid
    exact ⟨⟨fun j hj => by rw [HV.out.1, HK.out.2.2.1 j hj, x1 j hj], by rw [HV.out.2, HK.out.2.2.2, x2]⟩⟩
  clear hwid
  have kh0 := Gd.out.1.cell 0
  have ku0 := Gd.out.2.cell 0
  have kh1 := Gd.out.1.cell 1
  have ku1 := Gd.out.2.cell 1
  have kh2 := Gd.out.1.cell 2
  have ku2 := Gd.out.2.cell 2
  have kh3 := Gd.out.1.cell 3
  have ku3 := Gd.out.2.cell 3
  have kh4 := Gd.out.1.cell 4
  have ku4 := Gd.out.2.cell 4
  have kh5 := Gd.out.1.cell 5
  have ku5 := Gd.out.2.cell 5
  have kh6 := Gd.out.1.cell 6
  have ku6 := Gd.out.2.cell 6
  have kh7 := Gd.out.1.cell 7
  have ku7 := Gd.out.2.cell 7
  have kh8 := Gd.out.1.cell 8
  have ku8 := Gd.out.2.cell 8
  have kh9 := Gd.out.1.cell 9
  have ku9 := Gd.out.2.cell 9
  have kh10 := Gd.out.1.cell 10
  have ku10 := Gd.out.2.cell 10
  have kh11 := Gd.out.1.cell 11
  have ku11 := Gd.out.2.cell 11
  have kh12 := Gd.out.1.cell 12
  have ku12 := Gd.out.2.cell 12
  have kh13 := Gd.out.1.cell 13
  have ku13 := Gd.out.2.cell 13
  have kh14 := Gd.out.1.cell 14
  have ku14 := Gd.out.2.cell 14
  simp only [List.getElem?_cons_zero, List.getElem?_cons_succ] at kh0 ku0 kh1 ku1 kh2 ku2 kh3 ku3 kh4 ku4 kh5 ku5 kh6 ku6 kh7 ku7 kh8 ku8 kh9 ku9 kh10 ku10 kh11 ku11 kh12 ku12 kh13 ku13 kh14 ku14
  go_wp2_with (fail)
  clear kh0 ku0 kh1 ku1 kh2 ku2 kh3 ku3 kh4 ku4 kh5 ku5 kh6 ku6 kh7 ku7 kh8 ku8 kh9 ku9 kh10 ku10 kh11 ku11 kh12 ku12 kh13 ku13 kh14 ku14
  refine (Same_any (HUd.out.to HX.out.1 HX.out.2) (HA.out.below HBd.out)).mono ?_
  rintro e we ⟨rfl, hb⟩
  have HBe := Aside0.mk (HBd.out.trans (hb.mono HBd.out.size))
  clear hb
  go_wp2_with (fail)
  refine (awake_any _).mono ?_
  rintro e wz ⟨rfl, hb⟩
  go_wp2
  go_ret
  exact ⟨rfl, HBe.out.trans (hb.mono HBe.out.size)⟩
theorem back_walk (v u : Value) (w : World) (hv : HouseOk w v) (hu : CmdOk w u) : Calls Try.prog 4 #[v, u] w (YesB w) := by
  obtain ⟨vs, R, z, rfl, hA, hBk, hlen, hcl⟩ := hv
  obtain ⟨op, E1, e1, R1, E2, e2, R2, rfl, r1, r2, hc, _, _⟩ := hu
  obtain ⟨A0, c0, A1, c1, A2, c2, A3, c3, A4, c4, A5, c5, A6, c6, A7, c7, A8, c8, A9, c9, A10, c10, A11, c11, A12, c12, A13, c13, rfl, -⟩ := hA.shape
  exact back_go hA hBk hlen hcl r1 r2 hc
end Go.Proofs.Ytgdoodeibcfcjaa.Wire
