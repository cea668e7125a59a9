/- The walk of the law CodecCmds. Printed by ccmds.py. -/
import Derived.Test.YtgdoodeibcfcjaaCFew
import Derived.Test.YtgdoodeibcfcjaaCOpenC
import Derived.Test.YtgdoodeibcfcjaaCRefCmd
import Derived.Test.YtgdoodeibcfcjaaCAwake
set_option linter.unusedVariables false
set_option linter.unusedSimpArgs false
namespace Go.Proofs.Ytgdoodeibcfcjaa.Wire
open Go.RowKit Go.Proofs.Ytgdoodeibcfcjaa.NumsPure Go.Proofs.Ytgdoodeibcfcjaa.CPure Go.Proofs.Ytgdoodeibcfcjaa.Own
theorem cmdT_okR (D : List UInt8) (hl : D.length ≤ 100000000) : (∀ x ∈ cmdT D, Fits ks_str x) ∧ (cmdT D).length ≤ 100000000 := by
  by_cases h : endN (cmdS D) = 0
  · have e : cmdT D = (rdList ks_str (st_cmd_1 ⟨D, false⟩)).2 := by unfold cmdT; rw [if_pos h]
    rw [e]
    exact ⟨rdList_fits _ _, rdList_few _ _ (Nat.le_trans (st_cmd_1_len _) hl)⟩
  · have e : cmdT D = [] := by unfold cmdT; rw [if_neg h]
    rw [e]
    exact ⟨fun x hx => (by cases hx), by simp⟩
theorem cmdI_okR (D : List UInt8) (hl : D.length ≤ 100000000) : (∀ x ∈ cmdI D, Fits ks_int x) ∧ (cmdI D).length ≤ 100000000 := by
  by_cases h : endN (cmdS D) = 0
  · have e : cmdI D = (rdList ks_int (st_cmd_2 ⟨D, false⟩)).2 := by unfold cmdI; rw [if_pos h]
    rw [e]
    exact ⟨rdList_fits _ _, rdList_few _ _ (Nat.le_trans (st_cmd_2_len _) hl)⟩
  · have e : cmdI D = [] := by unfold cmdI; rw [if_neg h]
    rw [e]
    exact ⟨fun x hx => (by cases hx), by simp⟩
theorem cmd_valR (D : List UInt8) (S : ByteArray) (hS_ : S = ⟨D.toArray⟩) (hl : D.length ≤ 100000000) (w : World) : Calls Try.prog 9 #[.string S] w (RCmdV (endN (cmdS D)) (cmdN D) (cmdT D) (cmdI D) w) := by
  subst hS_
  refine (cmd_any D hl w).mono ?_
  rintro e w' ⟨hb, v1, v2, rfl, o1, o2⟩
  obtain ⟨A1, c1, rfl, r1⟩ := own_rowA o1 (cmdT_okR D hl).1 rfl (cmdT_okR D hl).2
  obtain ⟨A2, c2, rfl, r2⟩ := own_rowA o2 (cmdI_okR D hl).1 rfl (cmdI_okR D hl).2
  exact ⟨hb, A1, c1, A2, c2, rfl, r1, r2⟩
theorem keepC {w w' : World} (h : Below w.heap.size w w') {b j : Nat} {v : Value} (hc : w.cell? ⟨b, j, none⟩ = some v) : w'.cell? ⟨b, j, none⟩ = some v := (h.cell (p := ⟨b, j, none⟩) (World.block_lt_of_cell? w _ hc)).trans hc
set_option maxHeartbeats 16000000 in
set_option maxRecDepth 100000 in
theorem cmds_go (D : List UInt8) (S : ByteArray) (hS_ : S = ⟨D.toArray⟩) (hl : D.length ≤ 100000000) {op : Int} {E1 E2 : Option Addr} {e1 e2 : Nat} {R1 R2 : List (List Value)} {w : World} (h1 : RowA w E1 1 ks_str e1 R1) (h2 : RowA w E2 1 ks_int e2 R2) (hc : (enc_cmd R1 R2 op).length ≤ 140737488355328) :
    Calls Try.prog 6 #[.agg #[.int .i64 op, .slice E1 R1.length e1, .slice E2 R2.length e2], .string S] w (YesB w) := by
  obtain ⟨em, hem⟩ : ∃ em, endN (cmdS D) = em := ⟨_, rfl⟩
  have CC := Aside0.mk (fun w => cmd_valR D S hS_ hl w)
  have RC := Aside0.mk (fun w => rcmd_any D S hS_ hl w)
  rw [hem] at CC RC
  obtain ⟨B, hB⟩ : ∃ B : ByteArray, B = ⟨(enc_cmd R1 R2 op).toArray⟩ := ⟨_, rfl⟩
  have FW := Aside0.mk (fun (w : World) (k1 : RowA w E1 1 ks_str e1 R1) (k2 : RowA w E2 1 ks_int e2 R2) => few_any k1 k2 hc)
  have QB := Aside0.mk (fun (w : World) (k1 : RowA w E1 1 ks_str e1 R1) (k2 : RowA w E2 1 ks_int e2 R2) => cmdBytes_any k1 k2 hc)
  have QR := Aside0.mk (fun (w : World) (k1 : RowA w E1 1 ks_str e1 R1) (k2 : RowA w E2 1 ks_int e2 R2) => rcmdBytes_any k1 k2 hc)
  rw [← hB] at QB QR
  have HR := Aside0.mk (And.intro h1 h2)
  clear hS_ hl hem h1 h2 hc hB
  go_enter Try.func6, Try.ntmps6
  go_wp2_with (fail)
  refine (FW.out _ (HR.out.1.below (alloc_below _ _)) (HR.out.2.below (alloc_below _ _))).mono ?_
  rintro e w1 ⟨rfl | rfl, hb⟩
  rotate_left
  · have HB1 : Aside0 (Below w.heap.size w w1) := ⟨((Below.refl _ w).alloc (Nat.le_refl _) _).trans (hb.mono (by simp))⟩
    clear hb
    go_wp2_with (fail)
    refine (awake_any _).mono ?_
    rintro e w7 ⟨rfl, hb⟩
    go_wp2
    go_ret
    exact ⟨rfl, HB1.out.trans (hb.mono HB1.out.size)⟩
  have HB1 : Aside0 (Below w.heap.size w w1) := ⟨((Below.refl _ w).alloc (Nat.le_refl _) _).trans (hb.mono (by simp))⟩
  have G1 : Aside0 (Cs w.heap.size 44 [.int .i64 op, .slice E1 R1.length e1, .slice E2 R2.length e2] w1) := ⟨Cs.keep (cs_alloc w _ _ _ rfl) (hb.block _ (by simp))⟩
  clear hb
  go_wp2_with (fail)
  -- the code's command
  refine (CC.out _).mono ?_
  rintro e w3 ⟨hb, C1, c1, C2, c2, rfl, r1, r2⟩
  have HB3 : Aside0 (Below w.heap.size w w3) := ⟨HB1.out.trans (hb.mono HB1.out.size)⟩
  have G3 : Aside0 (Cs w.heap.size 44 [.int .i64 op, .slice E1 R1.length e1, .slice E2 R2.length e2] w3) := ⟨Cs.keep G1.out (hb.block _ G1.out.lt)⟩
  have R3 := Aside0.mk (And.intro r1 r2)
  clear hb r1 r2 G1
  go_wp2_with (fail)
  -- the reference's command
  refine (RC.out _).mono ?_
  rintro e w4 ⟨hb, D1, d1, D2, d2, rfl, r1, r2⟩
  have HB4 : Aside0 (Below w.heap.size w w4) := ⟨((HB3.out.alloc HB3.out.size _)).trans (hb.mono (by have := HB3.out.size; simp; omega))⟩
  have G4 : Aside0 (Cs w.heap.size 44 [.int .i64 op, .slice E1 R1.length e1, .slice E2 R2.length e2] w4 ∧ Cs w3.heap.size 44 [.int .i64 (cmdN D), .slice C1 (cmdT D).length c1, .slice C2 (cmdI D).length c2] w4) := ⟨Cs.keep (Cs.keep G3.out ((alloc_below w3 _).block _ G3.out.lt)) (hb.block _ (by have := G3.out.lt; simp; omega)), Cs.keep (cs_alloc w3 _ _ _ rfl) (hb.block _ (by simp))⟩
  have R4 := Aside0.mk (And.intro (And.intro ((R3.out.1.below (alloc_below _ _)).below hb) ((R3.out.2.below (alloc_below _ _)).below hb)) (And.intro r1 r2))
  clear hb r1 r2 G3 R3
  go_wp2_with (fail)
  obtain ⟨W5, hW5⟩ : ∃ W, W = w4.alloc (.cells #[.int .i64 (cmdN D), .slice D1 (cmdT D).length d1, .slice D2 (cmdI D).length d2] 44) := ⟨_, rfl⟩
  have g1 : Cs w.heap.size 44 [.int .i64 op, .slice E1 R1.length e1, .slice E2 R2.length e2] W5 := by rw [hW5]; exact Cs.keep G4.out.1 ((alloc_below w4 _).block _ G4.out.1.lt)
  have g2 : Cs w3.heap.size 44 [.int .i64 (cmdN D), .slice C1 (cmdT D).length c1, .slice C2 (cmdI D).length c2] W5 := by rw [hW5]; exact Cs.keep G4.out.2 ((alloc_below w4 _).block _ G4.out.2.lt)
  have g3 : Cs w4.heap.size 44 [.int .i64 (cmdN D), .slice D1 (cmdT D).length d1, .slice D2 (cmdI D).length d2] W5 := by rw [hW5]; exact cs_alloc w4 _ _ _ rfl
  have HB : Aside0 (Below w.heap.size w W5.drew) := ⟨by rw [hW5]; exact (HB4.out.alloc HB4.out.size _).drew⟩
  have HQ : Aside0 (Below w4.heap.size w4 W5.drew) := ⟨by rw [hW5]; exact (alloc_below _ _).drew⟩
  have hS : W5.drew.cell? ⟨w.heap.size, 0, none⟩ = some (.int .i64 op) ∧ W5.drew.cell? ⟨w.heap.size, 1, none⟩ = some (.slice E1 R1.length e1) ∧ W5.drew.cell? ⟨w.heap.size, 2, none⟩ = some (.slice E2 R2.length e2) ∧ W5.drew.cell? ⟨w3.heap.size, 0, none⟩ = some (.int .i64 (cmdN D)) ∧ W5.drew.cell? ⟨w3.heap.size, 1, none⟩ = some (.slice C1 (cmdT D).length c1) ∧ W5.drew.cell? ⟨w3.heap.size, 2, none⟩ = some (.slice C2 (cmdI D).length c2) ∧ W5.drew.cell? ⟨w4.heap.size, 0, none⟩ = some (.int .i64 (cmdN D)) ∧ W5.drew.cell? ⟨w4.heap.size, 1, none⟩ = some (.slice D1 (cmdT D).length d1) ∧ W5.drew.cell? ⟨w4.heap.size, 2, none⟩ = some (.slice D2 (cmdI D).length d2) := ⟨g1.cell 0, g1.cell 1, g1.cell 2, g2.cell 0, g2.cell 1, g2.cell 2, g3.cell 0, g3.cell 1, g3.cell 2⟩
  rw [← hW5]
  clear hW5 g1 g2 g3 G4 HB4
  go_region_held3 (fun w' : World => w'.cell? ⟨w.heap.size, 0, none⟩ = some (.int .i64 op) ∧ w'.cell? ⟨w.heap.size, 1, none⟩ = some (.slice E1 R1.length e1) ∧ w'.cell? ⟨w.heap.size, 2, none⟩ = some (.slice E2 R2.length e2) ∧ w'.cell? ⟨w3.heap.size, 0, none⟩ = some (.int .i64 (cmdN D)) ∧ w'.cell? ⟨w3.heap.size, 1, none⟩ = some (.slice C1 (cmdT D).length c1) ∧ w'.cell? ⟨w3.heap.size, 2, none⟩ = some (.slice C2 (cmdI D).length c2) ∧ w'.cell? ⟨w4.heap.size, 0, none⟩ = some (.int .i64 (cmdN D)) ∧ w'.cell? ⟨w4.heap.size, 1, none⟩ = some (.slice D1 (cmdT D).length d1) ∧ w'.cell? ⟨w4.heap.size, 2, none⟩ = some (.slice D2 (cmdI D).length d2)) (exact hS)
    ((first
      | (go_at_call 16; refine (QB.out _ (HR.out.1.below HB.out) (HR.out.2.below HB.out)).mono ?_; rintro e wz ⟨rfl, hb⟩; obtain ⟨s0, s1, s2, s3, s4, s5, s6, s7, s8⟩ := hS; have hS := And.intro (keepC hb s0) (And.intro (keepC hb s1) (And.intro (keepC hb s2) (And.intro (keepC hb s3) (And.intro (keepC hb s4) (And.intro (keepC hb s5) (And.intro (keepC hb s6) (And.intro (keepC hb s7) (keepC hb s8)))))))); have HB := Aside0.mk (HB.out.trans (hb.mono HB.out.size)); have HQ := Aside0.mk (HQ.out.trans (hb.mono HQ.out.size)); clear hb s0 s1 s2 s3 s4 s5 s6 s7 s8)
      | (go_at_call 20; refine (QR.out _ (HR.out.1.below HB.out) (HR.out.2.below HB.out)).mono ?_; rintro e wz ⟨rfl, hb⟩; obtain ⟨s0, s1, s2, s3, s4, s5, s6, s7, s8⟩ := hS; have hS := And.intro (keepC hb s0) (And.intro (keepC hb s1) (And.intro (keepC hb s2) (And.intro (keepC hb s3) (And.intro (keepC hb s4) (And.intro (keepC hb s5) (And.intro (keepC hb s6) (And.intro (keepC hb s7) (keepC hb s8)))))))); have HB := Aside0.mk (HB.out.trans (hb.mono HB.out.size)); have HQ := Aside0.mk (HQ.out.trans (hb.mono HQ.out.size)); clear hb s0 s1 s2 s3 s4 s5 s6 s7 s8)
      | (go_at_call 12; refine (sameCmd_any (R4.out.1.1.below HQ.out) (R4.out.1.2.below HQ.out) (R4.out.2.1.below HQ.out) (R4.out.2.2.below HQ.out)).mono ?_; rintro e wz ⟨rfl, hb⟩; obtain ⟨s0, s1, s2, s3, s4, s5, s6, s7, s8⟩ := hS; have hS := And.intro (keepC hb s0) (And.intro (keepC hb s1) (And.intro (keepC hb s2) (And.intro (keepC hb s3) (And.intro (keepC hb s4) (And.intro (keepC hb s5) (And.intro (keepC hb s6) (And.intro (keepC hb s7) (keepC hb s8)))))))); have HB := Aside0.mk (HB.out.trans (hb.mono HB.out.size)); have HQ := Aside0.mk (HQ.out.trans (hb.mono HQ.out.size)); clear hb s0 s1 s2 s3 s4 s5 s6 s7 s8)
      | (go_at_call 13; refine (awake_any _).mono ?_; rintro e wz ⟨rfl, hb⟩; obtain ⟨s0, s1, s2, s3, s4, s5, s6, s7, s8⟩ := hS; have hS := And.intro (keepC hb s0) (And.intro (keepC hb s1) (And.intro (keepC hb s2) (And.intro (keepC hb s3) (And.intro (keepC hb s4) (And.intro (keepC hb s5) (And.intro (keepC hb s6) (And.intro (keepC hb s7) (keepC hb s8)))))))); have HB := Aside0.mk (HB.out.trans (hb.mono HB.out.size)); have HQ := Aside0.mk (HQ.out.trans (hb.mono HQ.out.size)); clear hb s0 s1 s2 s3 s4 s5 s6 s7 s8)))
  all_goals
    go_wp2
    go_ret
    exact ⟨rfl, HB.out⟩
/-- The walk. -/
theorem cmds_walk (v : Value) (S : ByteArray) (hS : S.size ≤ 1048576) (w : World) (hv : CmdOk w v) : Calls Try.prog 6 #[v, .string S] w (YesB w) := by
  obtain ⟨D, hD, hDl⟩ : ∃ D : List UInt8, S = ⟨D.toArray⟩ ∧ D.length ≤ 100000000 := ⟨S.data.toList, by simp, by rw [Array.length_toList]; exact Nat.le_trans (show S.data.size ≤ 1048576 from hS) (by decide)⟩
  obtain ⟨op, A1, c1, R1, A2, c2, R2, rfl, r1, r2, hc, _, _⟩ := hv
  exact cmds_go D S hD hDl r1 r2 hc
end Go.Proofs.Ytgdoodeibcfcjaa.Wire
