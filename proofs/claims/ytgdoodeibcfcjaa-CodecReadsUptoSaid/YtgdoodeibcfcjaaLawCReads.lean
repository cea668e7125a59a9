/- The walk of the law CodecReads. Printed by creads.py. -/
import Derived.Test.YtgdoodeibcfcjaaCSameCmd
import Derived.Test.YtgdoodeibcfcjaaCRefCmd
import Derived.Test.YtgdoodeibcfcjaaCRefHouse
set_option linter.unusedVariables false
set_option linter.unusedSimpArgs false
namespace Go.Proofs.Ytgdoodeibcfcjaa.Wire
open Go.RowKit Go.Proofs.Ytgdoodeibcfcjaa.NumsPure Go.Proofs.Ytgdoodeibcfcjaa.CPure Go.Proofs.Ytgdoodeibcfcjaa.Own
theorem cmdT_okR (D : List UInt8) (hl : D.length ≤ 100000000) : (∀ x ∈ cmdT D, Fits ks_str x) ∧ (cmdT D).length ≤ 100000000 := by
  by_cases h : endN (cmdS D) = 0
  · have e : cmdT D = (rdList ks_str (st_cmd_1 ⟨D, false⟩)).2 := by unfold cmdT; rw [if_pos h]
    rw [e]
    exact ⟨rdList_fits _ _, rdList_few _ _ (Nat.le_trans (st_cmd_1_len _) hl)⟩
  · have e : cmdT D = [] := by unfold cmdT; rw [if_neg h]
    rw [e]
    exact ⟨fun x hx => (by cases hx), by simp⟩
theorem cmdI_okR (D : List UInt8) (hl : D.length ≤ 100000000) : (∀ x ∈ cmdI D, Fits ks_int x) ∧ (cmdI D).length ≤ 100000000 := by
  by_cases h : endN (cmdS D) = 0
  · have e : cmdI D = (rdList ks_int (st_cmd_2 ⟨D, false⟩)).2 := by unfold cmdI; rw [if_pos h]
    rw [e]
    exact ⟨rdList_fits _ _, rdList_few _ _ (Nat.le_trans (st_cmd_2_len _) hl)⟩
  · have e : cmdI D = [] := by unfold cmdI; rw [if_neg h]
    rw [e]
    exact ⟨fun x hx => (by cases hx), by simp⟩
theorem cmd_valR (D : List UInt8) (S : ByteArray) (hS_ : S = ⟨D.toArray⟩) (hl : D.length ≤ 100000000) (w : World) : Calls Try.prog 9 #[.string S] w (RCmdV (endN (cmdS D)) (cmdN D) (cmdT D) (cmdI D) w) := by
  subst hS_
  refine (cmd_any D hl w).mono ?_
  rintro e w' ⟨hb, v1, v2, rfl, o1, o2⟩
  obtain ⟨A1, c1, rfl, r1⟩ := own_rowA o1 (cmdT_okR D hl).1 rfl (cmdT_okR D hl).2
  obtain ⟨A2, c2, rfl, r2⟩ := own_rowA o2 (cmdI_okR D hl).1 rfl (cmdI_okR D hl).2
  exact ⟨hb, A1, c1, A2, c2, rfl, r1, r2⟩
set_option maxHeartbeats 16000000 in
set_option maxRecDepth 100000 in
theorem reads_go (D : List UInt8) (S : ByteArray) (hS_ : S = ⟨D.toArray⟩) (hl : D.length ≤ 100000000) (w : World) : Calls Try.prog 3 #[.string S] w (YesB w) := by
  obtain ⟨en, hen⟩ : ∃ en, endN (hS D) = en := ⟨_, rfl⟩
  obtain ⟨em, hem⟩ : ∃ em, endN (cmdS D) = em := ⟨_, rfl⟩
  have CH := Aside0.mk (fun w => house_val D S hS_ hl en hen w)
  have RH := Aside0.mk (fun w => rhouse_any D S hS_ hl w)
  have CC := Aside0.mk (fun w => cmd_valR D S hS_ hl w)
  have RC := Aside0.mk (fun w => rcmd_any D S hS_ hl w)
  rw [hen] at RH
  rw [hem] at CC RC
  clear hS_ hl hen hem
  go_enter Try.func3, Try.ntmps3
  go_wp2_with (fail)
  -- the code's house
  refine (CH.out _).mono ?_
  rintro e w1 ⟨hb, vs, rfl, hA⟩
  obtain ⟨A0, a0, A1, a1, A2, a2, A3, a3, A4, a4, A5, a5, A6, a6, A7, a7, A8, a8, A9, a9, A10, a10, A11, a11, A12, a12, A13, a13, rfl, -⟩ := hA.shape
  have HA := Aside0.mk (And.intro hA hb)
  clear hb hA
  go_wp2_with (fail)
  -- the reference's
  refine (RH.out _).mono ?_
  rintro e w2 ⟨hb, vs, rfl, hA2⟩
  obtain ⟨B0, b0, B1, b1, B2, b2, B3, b3, B4, b4, B5, b5, B6, b6, B7, b7, B8, b8, B9, b9, B10, b10, B11, b11, B12, b12, B13, b13, rfl, -⟩ := hA2.shape
  have HB2 : Aside0 (Below w.heap.size w w2) := ⟨((HA.out.2.alloc HA.out.2.size _)).trans (hb.mono (by have := HA.out.2.size; simp; omega))⟩
  have HA2 := Aside0.mk (And.intro ((HA.out.1.below (alloc_below _ _)).below hb) hA2)
  have G2 : Aside0 (Cs w1.heap.size 37 [.slice A0 (hR D 0).length a0, .slice A1 (hR D 1).length a1, .slice A2 (hR D 2).length a2, .slice A3 (hR D 3).length a3, .slice A4 (hR D 4).length a4, .slice A5 (hR D 5).length a5, .slice A6 (hR D 6).length a6, .slice A7 (hR D 7).length a7, .slice A8 (hR D 8).length a8, .slice A9 (hR D 9).length a9, .slice A10 (hR D 10).length a10, .slice A11 (hR D 11).length a11, .slice A12 (hR D 12).length a12, .slice A13 (hR D 13).length a13, .int .i64 (hZ D)] w2) := ⟨Cs.keep (cs_alloc w1 _ _ _ rfl) (hb.block _ (by simp))⟩
  clear hb hA2 HA
  go_wp2_with (fail)
  -- the code's command
  refine (CC.out _).mono ?_
  rintro e w3 ⟨hb, C1, c1, C2, c2, rfl, r1, r2⟩
  have HB3 : Aside0 (Below w.heap.size w w3) := ⟨((HB2.out.alloc HB2.out.size _)).trans (hb.mono (by have := HB2.out.size; simp; omega))⟩
  have HA3 := Aside0.mk (And.intro ((HA2.out.1.below (alloc_below _ _)).below hb) ((HA2.out.2.below (alloc_below _ _)).below hb))
  have G3 : Aside0 (Cs w1.heap.size 37 [.slice A0 (hR D 0).length a0, .slice A1 (hR D 1).length a1, .slice A2 (hR D 2).length a2, .slice A3 (hR D 3).length a3, .slice A4 (hR D 4).length a4, .slice A5 (hR D 5).length a5, .slice A6 (hR D 6).length a6, .slice A7 (hR D 7).length a7, .slice A8 (hR D 8).length a8, .slice A9 (hR D 9).length a9, .slice A10 (hR D 10).length a10, .slice A11 (hR D 11).length a11, .slice A12 (hR D 12).length a12, .slice A13 (hR D 13).length a13, .int .i64 (hZ D)] w3 ∧ Cs w2.heap.size 37 [.slice B0 (hR D 0).length b0, .slice B1 (hR D 1).length b1, .slice B2 (hR D 2).length b2, .slice B3 (hR D 3).length b3, .slice B4 (hR D 4).length b4, .slice B5 (hR D 5).length b5, .slice B6 (hR D 6).length b6, .slice B7 (hR D 7).length b7, .slice B8 (hR D 8).length b8, .slice B9 (hR D 9).length b9, .slice B10 (hR D 10).length b10, .slice B11 (hR D 11).length b11, .slice B12 (hR D 12).length b12, .slice B13 (hR D 13).length b13, .int .i64 (hZ D)] w3) := ⟨Cs.keep (Cs.keep G2.out ((alloc_below w2 _).block _ G2.out.lt)) (hb.block _ (by have := G2.out.lt; simp; omega)), Cs.keep (cs_alloc w2 _ _ _ rfl) (hb.block _ (by simp))⟩
  have R3 := Aside0.mk (And.intro r1 r2)
  clear hb r1 r2 HA2 G2
  go_wp2_with (fail)
  -- the reference's command
  refine (RC.out _).mono ?_
  rintro e w4 ⟨hb, D1, d1, D2, d2, rfl, r1, r2⟩
  have HB4 : Aside0 (Below w.heap.size w w4) := ⟨((HB3.out.alloc HB3.out.size _)).trans (hb.mono (by have := HB3.out.size; simp; omega))⟩
  have HA4 := Aside0.mk (And.intro ((HA3.out.1.below (alloc_below _ _)).below hb) ((HA3.out.2.below (alloc_below _ _)).below hb))
  have g1 : Cs w1.heap.size 37 [.slice A0 (hR D 0).length a0, .slice A1 (hR D 1).length a1, .slice A2 (hR D 2).length a2, .slice A3 (hR D 3).length a3, .slice A4 (hR D 4).length a4, .slice A5 (hR D 5).length a5, .slice A6 (hR D 6).length a6, .slice A7 (hR D 7).length a7, .slice A8 (hR D 8).length a8, .slice A9 (hR D 9).length a9, .slice A10 (hR D 10).length a10, .slice A11 (hR D 11).length a11, .slice A12 (hR D 12).length a12, .slice A13 (hR D 13).length a13, .int .i64 (hZ D)] w4 := Cs.keep (Cs.keep G3.out.1 ((alloc_below w3 _).block _ G3.out.1.lt)) (hb.block _ (by have := G3.out.1.lt; simp; omega))
  have g2 : Cs w2.heap.size 37 [.slice B0 (hR D 0).length b0, .slice B1 (hR D 1).length b1, .slice B2 (hR D 2).length b2, .slice B3 (hR D 3).length b3, .slice B4 (hR D 4).length b4, .slice B5 (hR D 5).length b5, .slice B6 (hR D 6).length b6, .slice B7 (hR D 7).length b7, .slice B8 (hR D 8).length b8, .slice B9 (hR D 9).length b9, .slice B10 (hR D 10).length b10, .slice B11 (hR D 11).length b11, .slice B12 (hR D 12).length b12, .slice B13 (hR D 13).length b13, .int .i64 (hZ D)] w4 := Cs.keep (Cs.keep G3.out.2 ((alloc_below w3 _).block _ G3.out.2.lt)) (hb.block _ (by have := G3.out.2.lt; simp; omega))
  have g3 : Cs w3.heap.size 44 [.int .i64 (cmdN D), .slice C1 (cmdT D).length c1, .slice C2 (cmdI D).length c2] w4 := Cs.keep (cs_alloc w3 _ _ _ rfl) (hb.block _ (by simp))
  have R4 := Aside0.mk (And.intro (And.intro ((R3.out.1.below (alloc_below _ _)).below hb) ((R3.out.2.below (alloc_below _ _)).below hb)) (And.intro r1 r2))
  have G4 := Aside0.mk (And.intro g1 (And.intro g2 g3))
  have l1 := g1.lt
  have l2 := g2.lt
  have l3 := g3.lt
  have ka0 := g1.cell 0
  have ka1 := g1.cell 1
  have ka2 := g1.cell 2
  have ka3 := g1.cell 3
  have ka4 := g1.cell 4
  have ka5 := g1.cell 5
  have ka6 := g1.cell 6
  have ka7 := g1.cell 7
  have ka8 := g1.cell 8
  have ka9 := g1.cell 9
  have ka10 := g1.cell 10
  have ka11 := g1.cell 11
  have ka12 := g1.cell 12
  have ka13 := g1.cell 13
  have ka14 := g1.cell 14
  simp only [List.getElem?_cons_zero, List.getElem?_cons_succ] at ka0 ka1 ka2 ka3 ka4 ka5 ka6 ka7 ka8 ka9 ka10 ka11 ka12 ka13 ka14
  have kb0 := g2.cell 0
  have kb1 := g2.cell 1
  have kb2 := g2.cell 2
  have kb3 := g2.cell 3
  have kb4 := g2.cell 4
  have kb5 := g2.cell 5
  have kb6 := g2.cell 6
  have kb7 := g2.cell 7
  have kb8 := g2.cell 8
  have kb9 := g2.cell 9
  have kb10 := g2.cell 10
  have kb11 := g2.cell 11
  have kb12 := g2.cell 12
  have kb13 := g2.cell 13
  have kb14 := g2.cell 14
  simp only [List.getElem?_cons_zero, List.getElem?_cons_succ] at kb0 kb1 kb2 kb3 kb4 kb5 kb6 kb7 kb8 kb9 kb10 kb11 kb12 kb13 kb14
  have kc0 := g3.cell 0
  have kc1 := g3.cell 1
  have kc2 := g3.cell 2
  simp only [List.getElem?_cons_zero, List.getElem?_cons_succ] at kc0 kc1 kc2
  clear hb r1 r2 HA3 G3 R3 g1 g2 g3
  go_wp2_with (fail)
  refine (Same_any (HA4.out.1.below (alloc_below _ _)) (HA4.out.2.below (alloc_below _ _))).mono ?_
  rintro e w5 ⟨rfl, hb⟩
  have HB5 : Aside0 (Below w.heap.size w w5) := ⟨((HB4.out.alloc HB4.out.size _)).trans (hb.mono (by have := HB4.out.size; simp; omega))⟩
  have g3 : Cs w3.heap.size 44 [.int .i64 (cmdN D), .slice C1 (cmdT D).length c1, .slice C2 (cmdI D).length c2] w5 := Cs.keep (Cs.keep G4.out.2.2 ((alloc_below w4 _).block _ G4.out.2.2.lt)) (hb.block _ (by have := G4.out.2.2.lt; simp; omega))
  have g4 : Cs w4.heap.size 44 [.int .i64 (cmdN D), .slice D1 (cmdT D).length d1, .slice D2 (cmdI D).length d2] w5 := Cs.keep (cs_alloc w4 _ _ _ rfl) (hb.block _ (by simp))
  have R5 := Aside0.mk (And.intro (And.intro ((R4.out.1.1.below (alloc_below _ _)).below hb) ((R4.out.1.2.below (alloc_below _ _)).below hb)) (And.intro ((R4.out.2.1.below (alloc_below _ _)).below hb) ((R4.out.2.2.below (alloc_below _ _)).below hb)))
  clear hb HA4 R4 G4 l1 l2 l3 ka0 kb0 ka1 kb1 ka2 kb2 ka3 kb3 ka4 kb4 ka5 kb5 ka6 kb6 ka7 kb7 ka8 kb8 ka9 kb9 ka10 kb10 ka11 kb11 ka12 kb12 ka13 kb13 ka14 kb14 kc0 kc1 kc2
  have kc0 := g3.cell 0
  have kc1 := g3.cell 1
  have kc2 := g3.cell 2
  simp only [List.getElem?_cons_zero, List.getElem?_cons_succ] at kc0 kc1 kc2
  have kd0 := g4.cell 0
  have kd1 := g4.cell 1
  have kd2 := g4.cell 2
  simp only [List.getElem?_cons_zero, List.getElem?_cons_succ] at kd0 kd1 kd2
  clear g3 g4
  go_wp2_with (fail)
  refine (sameCmd_any R5.out.1.1 R5.out.1.2 R5.out.2.1 R5.out.2.2).mono ?_
  rintro e w6 ⟨rfl, hb⟩
  have HB6 : Aside0 (Below w.heap.size w w6) := ⟨HB5.out.trans (hb.mono HB5.out.size)⟩
  clear hb
  go_wp2_with (fail)
  refine (awake_any _).mono ?_
  rintro e w7 ⟨rfl, hb⟩
  go_wp2
  go_ret
  exact ⟨rfl, HB6.out.trans (hb.mono HB6.out.size)⟩
/-- The walk. -/
theorem reads_walk (S : ByteArray) (hl : S.size ≤ 1048576) (w : World) : Calls Try.prog 3 #[.string S] w (YesB w) := by
  obtain ⟨D, hD, hDl⟩ : ∃ D : List UInt8, S = ⟨D.toArray⟩ ∧ D.length ≤ 100000000 := ⟨S.data.toList, by simp, by rw [Array.length_toList]; exact Nat.le_trans (show S.data.size ≤ 1048576 from hl) (by decide)⟩
  exact reads_go D S hD hDl w
end Go.Proofs.Ytgdoodeibcfcjaa.Wire
