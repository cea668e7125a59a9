/- The walk of the law CodecThere. Printed by cthere.py. -/
import Derived.Test.YtgdoodeibcfcjaaCAwake
set_option linter.unusedVariables false
set_option linter.unusedSimpArgs false
namespace Go.Proofs.Ytgdoodeibcfcjaa.Wire
open Go.RowKit Go.Proofs.Ytgdoodeibcfcjaa.NumsPure Go.Proofs.Ytgdoodeibcfcjaa.CPure Go.Proofs.Ytgdoodeibcfcjaa.Own
open Go.Proofs.Ytgdoodeibcfcjaa.Put (digits digits_lt digits_ge)
/-- What Cmd answers, the error's number and the lists spelled. -/
def CmdV (em n : Int) (T I : List (List Value)) (w : World) (e : Ending) (w' : World) : Prop := Below w.heap.size w w' ∧ ∃ A1 c1 A2 c2, e = .returned (.tuple #[.agg #[.int .i64 n, .slice A1 T.length c1, .slice A2 I.length c2], .int .i64 em]) ∧ RowA w' A1 1 ks_str c1 T ∧ RowA w' A2 1 ks_int c2 I
theorem cmdT_ok (D : List UInt8) (hl : D.length ≤ 100000000) : (∀ x ∈ cmdT D, Fits ks_str x) ∧ (cmdT D).length ≤ 100000000 := by
  by_cases h : endN (cmdS D) = 0
  · have e : cmdT D = (rdList ks_str (st_cmd_1 ⟨D, false⟩)).2 := by unfold cmdT; rw [if_pos h]
    rw [e]
    exact ⟨rdList_fits _ _, rdList_few _ _ (Nat.le_trans (st_cmd_1_len _) hl)⟩
  · have e : cmdT D = [] := by unfold cmdT; rw [if_neg h]
    rw [e]
    exact ⟨fun x hx => (by cases hx), by simp⟩
theorem cmdI_ok (D : List UInt8) (hl : D.length ≤ 100000000) : (∀ x ∈ cmdI D, Fits ks_int x) ∧ (cmdI D).length ≤ 100000000 := by
  by_cases h : endN (cmdS D) = 0
  · have e : cmdI D = (rdList ks_int (st_cmd_2 ⟨D, false⟩)).2 := by unfold cmdI; rw [if_pos h]
    rw [e]
    exact ⟨rdList_fits _ _, rdList_few _ _ (Nat.le_trans (st_cmd_2_len _) hl)⟩
  · have e : cmdI D = [] := by unfold cmdI; rw [if_neg h]
    rw [e]
    exact ⟨fun x hx => (by cases hx), by simp⟩
theorem cmd_val (D : List UInt8) (S : ByteArray) (hS_ : S = ⟨D.toArray⟩) (hl : D.length ≤ 100000000) (em : Int) (he : endN (cmdS D) = em) (w : World) : Calls Try.prog 9 #[.string S] w (CmdV em (cmdN D) (cmdT D) (cmdI D) w) := by
  subst hS_; subst he
  refine (cmd_any D hl w).mono ?_
  rintro e w' ⟨hb, v1, v2, rfl, o1, o2⟩
  obtain ⟨A1, c1, rfl, r1⟩ := own_rowA o1 (cmdT_ok D hl).1 rfl (cmdT_ok D hl).2
  obtain ⟨A2, c2, rfl, r2⟩ := own_rowA o2 (cmdI_ok D hl).1 rfl (cmdI_ok D hl).2
  exact ⟨hb, A1, c1, A2, c2, rfl, r1, r2⟩
theorem bytes_val (D : List UInt8) (S : ByteArray) (hS_ : S = ⟨D.toArray⟩) (hl : D.length ≤ 100000000) (he : endN (hS D) = 0) {vs : List Value} {w : World} (h : HouseA w vs (hR D) (hZ D)) : Calls Try.prog 18 #[.agg vs.toArray] w fun e w' => e = .returned (.string S) ∧ Below w.heap.size w w' := by
  have e := house_there D he
  have := bytes_any h (by rw [e]; omega)
  rw [e, ← hS_] at this
  exact this
theorem cmdBytes_val (D : List UInt8) (S : ByteArray) (hS_ : S = ⟨D.toArray⟩) (hl : D.length ≤ 100000000) (he : endN (cmdS D) = 0) {A1 A2 : Option Addr} {c1 c2 : Nat} {w : World} (h1 : RowA w A1 1 ks_str c1 (cmdT D)) (h2 : RowA w A2 1 ks_int c2 (cmdI D)) :
    Calls Try.prog 16 #[.agg #[.int .i64 (cmdN D), .slice A1 (cmdT D).length c1, .slice A2 (cmdI D).length c2]] w fun e w' => e = .returned (.string S) ∧ Below w.heap.size w w' := by
  have e := cmd_there D he
  have := cmdBytes_any (op := cmdN D) h1 h2 (by rw [e]; omega)
  rw [e, ← hS_] at this
  exact this
theorem hR_bad {D : List UInt8} (h : endN (hS D) ≠ 0) : (∀ j, j < 14 → hR D j = []) ∧ hZ D = 0 := by
  refine ⟨fun j _ => ?_, ?_⟩
  · unfold hR; rw [if_neg h]
  · unfold hZ; rw [if_neg h]
set_option maxHeartbeats 16000000 in
set_option maxRecDepth 100000 in
theorem there_44_44 (D : List UInt8) (S : ByteArray) (hS_ : S = ⟨D.toArray⟩) (hl : D.length ≤ 100000000) (he : endN (hS D) = 44) (hm : endN (cmdS D) = 44) (w : World) : Calls Try.prog 5 #[.string S] w (YesB w) := by
  have CH := Aside0.mk (fun w => house_val D S hS_ hl 44 he w)
  have CC := Aside0.mk (fun w => cmd_val D S hS_ hl 44 hm w)
  have HA1 := Aside0.mk (And.intro hS_ (And.intro hl (And.intro he hm)))
  clear hS_ hl he hm
  go_enter Try.func5, Try.ntmps5
  go_wp2_with (fail)
  refine (CH.out _).mono ?_
  rintro e w1 ⟨hb, vs, rfl, hA⟩
  obtain ⟨A0, c0, A1, c1, A2, c2, A3, c3, A4, c4, A5, c5, A6, c6, A7, c7, A8, c8, A9, c9, A10, c10, A11, c11, A12, c12, A13, c13, rfl, -⟩ := hA.shape
  have HA := Aside0.mk (And.intro hA hb)
  clear hb hA
  go_wp2_with (fail)
  refine (CC.out _).mono ?_
  rintro e w3 ⟨hb, B1, d1, B2, d2, rfl, r1, r2⟩
  have HB3 : Aside0 (Below w.heap.size w w3) := ⟨((HA.out.2.alloc HA.out.2.size _)).trans (hb.mono (by have := HA.out.2.size; simp; omega))⟩
  have HH3 : Aside0 (Below w1.heap.size w1 w3) := ⟨(alloc_below _ _).trans (hb.mono (by simp))⟩
  have g3 : Cs w1.heap.size 37 [.slice A0 (hR D 0).length c0, .slice A1 (hR D 1).length c1, .slice A2 (hR D 2).length c2, .slice A3 (hR D 3).length c3, .slice A4 (hR D 4).length c4, .slice A5 (hR D 5).length c5, .slice A6 (hR D 6).length c6, .slice A7 (hR D 7).length c7, .slice A8 (hR D 8).length c8, .slice A9 (hR D 9).length c9, .slice A10 (hR D 10).length c10, .slice A11 (hR D 11).length c11, .slice A12 (hR D 12).length c12, .slice A13 (hR D 13).length c13, .int .i64 (hZ D)] w3 := Cs.keep (cs_alloc w1 _ _ _ rfl) (hb.block _ (by simp))
  have G3 := Aside0.mk g3
  clear g3
  have HR3 := Aside0.mk (And.intro r1 r2)
  clear hb r1 r2

  have g3 := G3.out
  have k0 := g3.cell 0
  have k1 := g3.cell 1
  have k2 := g3.cell 2
  have k3 := g3.cell 3
  have k4 := g3.cell 4
  have k5 := g3.cell 5
  have k6 := g3.cell 6
  have k7 := g3.cell 7
  have k8 := g3.cell 8
  have k9 := g3.cell 9
  have k10 := g3.cell 10
  have k11 := g3.cell 11
  have k12 := g3.cell 12
  have k13 := g3.cell 13
  have k14 := g3.cell 14
  simp only [List.getElem?_cons_zero, List.getElem?_cons_succ] at k0 k1 k2 k3 k4 k5 k6 k7 k8 k9 k10 k11 k12 k13 k14
  have hlt3 := g3.lt
  clear g3
  go_wp2_with (fail)
  refine (Same_any (((HA.out.1.below HH3.out).to (hR_bad (D := D) (by rw [HA1.out.2.2.1]; decide)).1 (hR_bad (D := D) (by rw [HA1.out.2.2.1]; decide)).2).below (alloc_below _ _)) (houseA_nil _)).mono ?_
  rintro e w5 ⟨rfl, hb⟩
  have HB5 : Aside0 (Below w.heap.size w w5) := ⟨((HB3.out.alloc HB3.out.size _)).trans (hb.mono (by have := HB3.out.size; simp; omega))⟩
  clear hb
  go_wp2_with (fail)
  refine (awake_any _).mono ?_
  rintro e w6 ⟨rfl, hb⟩
  go_wp2
  go_ret
  exact ⟨rfl, HB5.out.trans (hb.mono HB5.out.size)⟩
set_option maxHeartbeats 16000000 in
set_option maxRecDepth 100000 in
theorem there_44_0 (D : List UInt8) (S : ByteArray) (hS_ : S = ⟨D.toArray⟩) (hl : D.length ≤ 100000000) (he : endN (hS D) = 44) (hm : endN (cmdS D) = 0) (w : World) : Calls Try.prog 5 #[.string S] w (YesB w) := by
  have CH := Aside0.mk (fun w => house_val D S hS_ hl 44 he w)
  have CC := Aside0.mk (fun w => cmd_val D S hS_ hl 0 hm w)
  have HA1 := Aside0.mk (And.intro hS_ (And.intro hl (And.intro he hm)))
  clear hS_ hl he hm
  go_enter Try.func5, Try.ntmps5
  go_wp2_with (fail)
  refine (CH.out _).mono ?_
  rintro e w1 ⟨hb, vs, rfl, hA⟩
  obtain ⟨A0, c0, A1, c1, A2, c2, A3, c3, A4, c4, A5, c5, A6, c6, A7, c7, A8, c8, A9, c9, A10, c10, A11, c11, A12, c12, A13, c13, rfl, -⟩ := hA.shape
  have HA := Aside0.mk (And.intro hA hb)
  clear hb hA
  go_wp2_with (fail)
  refine (CC.out _).mono ?_
  rintro e w3 ⟨hb, B1, d1, B2, d2, rfl, r1, r2⟩
  have HB3 : Aside0 (Below w.heap.size w w3) := ⟨((HA.out.2.alloc HA.out.2.size _)).trans (hb.mono (by have := HA.out.2.size; simp; omega))⟩
  have HH3 : Aside0 (Below w1.heap.size w1 w3) := ⟨(alloc_below _ _).trans (hb.mono (by simp))⟩
  have g3 : Cs w1.heap.size 37 [.slice A0 (hR D 0).length c0, .slice A1 (hR D 1).length c1, .slice A2 (hR D 2).length c2, .slice A3 (hR D 3).length c3, .slice A4 (hR D 4).length c4, .slice A5 (hR D 5).length c5, .slice A6 (hR D 6).length c6, .slice A7 (hR D 7).length c7, .slice A8 (hR D 8).length c8, .slice A9 (hR D 9).length c9, .slice A10 (hR D 10).length c10, .slice A11 (hR D 11).length c11, .slice A12 (hR D 12).length c12, .slice A13 (hR D 13).length c13, .int .i64 (hZ D)] w3 := Cs.keep (cs_alloc w1 _ _ _ rfl) (hb.block _ (by simp))
  have G3 := Aside0.mk g3
  clear g3
  have HR3 := Aside0.mk (And.intro r1 r2)
  clear hb r1 r2
  go_wp2_with (fail)
  refine (cmdBytes_val D S HA1.out.1 HA1.out.2.1 HA1.out.2.2.2 (HR3.out.1.below (alloc_below _ _)) (HR3.out.2.below (alloc_below _ _))).mono ?_
  rintro e w4 ⟨rfl, hb⟩
  have HB4 : Aside0 (Below w.heap.size w w4) := ⟨((HB3.out.alloc HB3.out.size _)).trans (hb.mono (by have := HB3.out.size; simp; omega))⟩
  have HH4 : Aside0 (Below w1.heap.size w1 w4) := ⟨HH3.out.trans ((alloc_below _ _).trans (hb.mono (by simp)) |>.mono HH3.out.size)⟩
  have g3 : Cs w1.heap.size 37 [.slice A0 (hR D 0).length c0, .slice A1 (hR D 1).length c1, .slice A2 (hR D 2).length c2, .slice A3 (hR D 3).length c3, .slice A4 (hR D 4).length c4, .slice A5 (hR D 5).length c5, .slice A6 (hR D 6).length c6, .slice A7 (hR D 7).length c7, .slice A8 (hR D 8).length c8, .slice A9 (hR D 9).length c9, .slice A10 (hR D 10).length c10, .slice A11 (hR D 11).length c11, .slice A12 (hR D 12).length c12, .slice A13 (hR D 13).length c13, .int .i64 (hZ D)] w4 := Cs.keep (Cs.keep G3.out ((alloc_below w3 _).block _ G3.out.lt)) (hb.block _ (by have := G3.out.lt; simp; omega))
  clear hb
  have k0 := g3.cell 0
  have k1 := g3.cell 1
  have k2 := g3.cell 2
  have k3 := g3.cell 3
  have k4 := g3.cell 4
  have k5 := g3.cell 5
  have k6 := g3.cell 6
  have k7 := g3.cell 7
  have k8 := g3.cell 8
  have k9 := g3.cell 9
  have k10 := g3.cell 10
  have k11 := g3.cell 11
  have k12 := g3.cell 12
  have k13 := g3.cell 13
  have k14 := g3.cell 14
  simp only [List.getElem?_cons_zero, List.getElem?_cons_succ] at k0 k1 k2 k3 k4 k5 k6 k7 k8 k9 k10 k11 k12 k13 k14
  clear g3
  go_wp2_with (fail)
  refine (Same_any ((HA.out.1.below HH4.out).to (hR_bad (D := D) (by rw [HA1.out.2.2.1]; decide)).1 (hR_bad (D := D) (by rw [HA1.out.2.2.1]; decide)).2) (houseA_nil _)).mono ?_
  rintro e w5 ⟨rfl, hb⟩
  have HB5 : Aside0 (Below w.heap.size w w5) := ⟨HB4.out.trans (hb.mono HB4.out.size)⟩
  clear hb
  go_wp2_with (fail)
  refine (awake_any _).mono ?_
  rintro e w6 ⟨rfl, hb⟩
  go_wp2
  go_ret
  exact ⟨rfl, HB5.out.trans (hb.mono HB5.out.size)⟩
set_option maxHeartbeats 16000000 in
set_option maxRecDepth 100000 in
theorem there_44_45 (D : List UInt8) (S : ByteArray) (hS_ : S = ⟨D.toArray⟩) (hl : D.length ≤ 100000000) (he : endN (hS D) = 44) (hm : endN (cmdS D) = 45) (w : World) : Calls Try.prog 5 #[.string S] w (YesB w) := by
  have CH := Aside0.mk (fun w => house_val D S hS_ hl 44 he w)
  have CC := Aside0.mk (fun w => cmd_val D S hS_ hl 45 hm w)
  have HA1 := Aside0.mk (And.intro hS_ (And.intro hl (And.intro he hm)))
  clear hS_ hl he hm
  go_enter Try.func5, Try.ntmps5
  go_wp2_with (fail)
  refine (CH.out _).mono ?_
  rintro e w1 ⟨hb, vs, rfl, hA⟩
  obtain ⟨A0, c0, A1, c1, A2, c2, A3, c3, A4, c4, A5, c5, A6, c6, A7, c7, A8, c8, A9, c9, A10, c10, A11, c11, A12, c12, A13, c13, rfl, -⟩ := hA.shape
  have HA := Aside0.mk (And.intro hA hb)
  clear hb hA
  go_wp2_with (fail)
  refine (CC.out _).mono ?_
  rintro e w3 ⟨hb, B1, d1, B2, d2, rfl, r1, r2⟩
  have HB3 : Aside0 (Below w.heap.size w w3) := ⟨((HA.out.2.alloc HA.out.2.size _)).trans (hb.mono (by have := HA.out.2.size; simp; omega))⟩
  have HH3 : Aside0 (Below w1.heap.size w1 w3) := ⟨(alloc_below _ _).trans (hb.mono (by simp))⟩
  have g3 : Cs w1.heap.size 37 [.slice A0 (hR D 0).length c0, .slice A1 (hR D 1).length c1, .slice A2 (hR D 2).length c2, .slice A3 (hR D 3).length c3, .slice A4 (hR D 4).length c4, .slice A5 (hR D 5).length c5, .slice A6 (hR D 6).length c6, .slice A7 (hR D 7).length c7, .slice A8 (hR D 8).length c8, .slice A9 (hR D 9).length c9, .slice A10 (hR D 10).length c10, .slice A11 (hR D 11).length c11, .slice A12 (hR D 12).length c12, .slice A13 (hR D 13).length c13, .int .i64 (hZ D)] w3 := Cs.keep (cs_alloc w1 _ _ _ rfl) (hb.block _ (by simp))
  have G3 := Aside0.mk g3
  clear g3
  have HR3 := Aside0.mk (And.intro r1 r2)
  clear hb r1 r2

  have g3 := G3.out
  have k0 := g3.cell 0
  have k1 := g3.cell 1
  have k2 := g3.cell 2
  have k3 := g3.cell 3
  have k4 := g3.cell 4
  have k5 := g3.cell 5
  have k6 := g3.cell 6
  have k7 := g3.cell 7
  have k8 := g3.cell 8
  have k9 := g3.cell 9
  have k10 := g3.cell 10
  have k11 := g3.cell 11
  have k12 := g3.cell 12
  have k13 := g3.cell 13
  have k14 := g3.cell 14
  simp only [List.getElem?_cons_zero, List.getElem?_cons_succ] at k0 k1 k2 k3 k4 k5 k6 k7 k8 k9 k10 k11 k12 k13 k14
  have hlt3 := g3.lt
  clear g3
  go_wp2_with (fail)
  refine (Same_any (((HA.out.1.below HH3.out).to (hR_bad (D := D) (by rw [HA1.out.2.2.1]; decide)).1 (hR_bad (D := D) (by rw [HA1.out.2.2.1]; decide)).2).below (alloc_below _ _)) (houseA_nil _)).mono ?_
  rintro e w5 ⟨rfl, hb⟩
  have HB5 : Aside0 (Below w.heap.size w w5) := ⟨((HB3.out.alloc HB3.out.size _)).trans (hb.mono (by have := HB3.out.size; simp; omega))⟩
  clear hb
  go_wp2_with (fail)
  refine (awake_any _).mono ?_
  rintro e w6 ⟨rfl, hb⟩
  go_wp2
  go_ret
  exact ⟨rfl, HB5.out.trans (hb.mono HB5.out.size)⟩
set_option maxHeartbeats 16000000 in
set_option maxRecDepth 100000 in
theorem there_0_44 (D : List UInt8) (S : ByteArray) (hS_ : S = ⟨D.toArray⟩) (hl : D.length ≤ 100000000) (he : endN (hS D) = 0) (hm : endN (cmdS D) = 44) (w : World) : Calls Try.prog 5 #[.string S] w (YesB w) := by
  have CH := Aside0.mk (fun w => house_val D S hS_ hl 0 he w)
  have CC := Aside0.mk (fun w => cmd_val D S hS_ hl 44 hm w)
  have HA1 := Aside0.mk (And.intro hS_ (And.intro hl (And.intro he hm)))
  clear hS_ hl he hm
  go_enter Try.func5, Try.ntmps5
  go_wp2_with (fail)
  refine (CH.out _).mono ?_
  rintro e w1 ⟨hb, vs, rfl, hA⟩
  obtain ⟨A0, c0, A1, c1, A2, c2, A3, c3, A4, c4, A5, c5, A6, c6, A7, c7, A8, c8, A9, c9, A10, c10, A11, c11, A12, c12, A13, c13, rfl, -⟩ := hA.shape
  have HA := Aside0.mk (And.intro hA hb)
  clear hb hA
  go_wp2_with (fail)
  refine (bytes_val D S HA1.out.1 HA1.out.2.1 HA1.out.2.2.1 (HA.out.1.below (alloc_below _ _))).mono ?_
  rintro e w2 ⟨rfl, hb⟩
  have HB2 : Aside0 (Below w.heap.size w w2) := ⟨((HA.out.2.alloc HA.out.2.size _)).trans (hb.mono (by have := HA.out.2.size; simp; omega))⟩
  clear hb
  go_wp2_with (fail)
  refine (CC.out _).mono ?_
  rintro e w3 ⟨hb, B1, d1, B2, d2, rfl, r1, r2⟩
  have HB3 : Aside0 (Below w.heap.size w w3) := ⟨HB2.out.trans (hb.mono HB2.out.size)⟩
  have HR3 := Aside0.mk (And.intro r1 r2)
  clear hb r1 r2
  go_wp2_with (fail)
  refine (awake_any _).mono ?_
  rintro e w6 ⟨rfl, hb⟩
  go_wp2
  go_ret
  exact ⟨rfl, ((HB3.out.alloc HB3.out.size _)).trans (hb.mono (by have := HB3.out.size; simp; omega))⟩
set_option maxHeartbeats 16000000 in
set_option maxRecDepth 100000 in
theorem there_0_0 (D : List UInt8) (S : ByteArray) (hS_ : S = ⟨D.toArray⟩) (hl : D.length ≤ 100000000) (he : endN (hS D) = 0) (hm : endN (cmdS D) = 0) (w : World) : Calls Try.prog 5 #[.string S] w (YesB w) := by
  have CH := Aside0.mk (fun w => house_val D S hS_ hl 0 he w)
  have CC := Aside0.mk (fun w => cmd_val D S hS_ hl 0 hm w)
  have HA1 := Aside0.mk (And.intro hS_ (And.intro hl (And.intro he hm)))
  clear hS_ hl he hm
  go_enter Try.func5, Try.ntmps5
  go_wp2_with (fail)
  refine (CH.out _).mono ?_
  rintro e w1 ⟨hb, vs, rfl, hA⟩
  obtain ⟨A0, c0, A1, c1, A2, c2, A3, c3, A4, c4, A5, c5, A6, c6, A7, c7, A8, c8, A9, c9, A10, c10, A11, c11, A12, c12, A13, c13, rfl, -⟩ := hA.shape
  have HA := Aside0.mk (And.intro hA hb)
  clear hb hA
  go_wp2_with (fail)
  refine (bytes_val D S HA1.out.1 HA1.out.2.1 HA1.out.2.2.1 (HA.out.1.below (alloc_below _ _))).mono ?_
  rintro e w2 ⟨rfl, hb⟩
  have HB2 : Aside0 (Below w.heap.size w w2) := ⟨((HA.out.2.alloc HA.out.2.size _)).trans (hb.mono (by have := HA.out.2.size; simp; omega))⟩
  clear hb
  go_wp2_with (fail)
  refine (CC.out _).mono ?_
  rintro e w3 ⟨hb, B1, d1, B2, d2, rfl, r1, r2⟩
  have HB3 : Aside0 (Below w.heap.size w w3) := ⟨HB2.out.trans (hb.mono HB2.out.size)⟩
  have HR3 := Aside0.mk (And.intro r1 r2)
  clear hb r1 r2
  go_wp2_with (fail)
  refine (cmdBytes_val D S HA1.out.1 HA1.out.2.1 HA1.out.2.2.2 (HR3.out.1.below (alloc_below _ _)) (HR3.out.2.below (alloc_below _ _))).mono ?_
  rintro e w4 ⟨rfl, hb⟩
  have HB4 : Aside0 (Below w.heap.size w w4) := ⟨((HB3.out.alloc HB3.out.size _)).trans (hb.mono (by have := HB3.out.size; simp; omega))⟩
  clear hb
  go_wp2_with (fail)
  refine (awake_any _).mono ?_
  rintro e w6 ⟨rfl, hb⟩
  go_wp2
  go_ret
  exact ⟨rfl, HB4.out.trans (hb.mono HB4.out.size)⟩
set_option maxHeartbeats 16000000 in
set_option maxRecDepth 100000 in
theorem there_0_45 (D : List UInt8) (S : ByteArray) (hS_ : S = ⟨D.toArray⟩) (hl : D.length ≤ 100000000) (he : endN (hS D) = 0) (hm : endN (cmdS D) = 45) (w : World) : Calls Try.prog 5 #[.string S] w (YesB w) := by
  have CH := Aside0.mk (fun w => house_val D S hS_ hl 0 he w)
  have CC := Aside0.mk (fun w => cmd_val D S hS_ hl 45 hm w)
  have HA1 := Aside0.mk (And.intro hS_ (And.intro hl (And.intro he hm)))
  clear hS_ hl he hm
  go_enter Try.func5, Try.ntmps5
  go_wp2_with (fail)
  refine (CH.out _).mono ?_
  rintro e w1 ⟨hb, vs, rfl, hA⟩
  obtain ⟨A0, c0, A1, c1, A2, c2, A3, c3, A4, c4, A5, c5, A6, c6, A7, c7, A8, c8, A9, c9, A10, c10, A11, c11, A12, c12, A13, c13, rfl, -⟩ := hA.shape
  have HA := Aside0.mk (And.intro hA hb)
  clear hb hA
  go_wp2_with (fail)
  refine (bytes_val D S HA1.out.1 HA1.out.2.1 HA1.out.2.2.1 (HA.out.1.below (alloc_below _ _))).mono ?_
  rintro e w2 ⟨rfl, hb⟩
  have HB2 : Aside0 (Below w.heap.size w w2) := ⟨((HA.out.2.alloc HA.out.2.size _)).trans (hb.mono (by have := HA.out.2.size; simp; omega))⟩
  clear hb
  go_wp2_with (fail)
  refine (CC.out _).mono ?_
  rintro e w3 ⟨hb, B1, d1, B2, d2, rfl, r1, r2⟩
  have HB3 : Aside0 (Below w.heap.size w w3) := ⟨HB2.out.trans (hb.mono HB2.out.size)⟩
  have HR3 := Aside0.mk (And.intro r1 r2)
  clear hb r1 r2
  go_wp2_with (fail)
  refine (awake_any _).mono ?_
  rintro e w6 ⟨rfl, hb⟩
  go_wp2
  go_ret
  exact ⟨rfl, ((HB3.out.alloc HB3.out.size _)).trans (hb.mono (by have := HB3.out.size; simp; omega))⟩
set_option maxHeartbeats 16000000 in
set_option maxRecDepth 100000 in
theorem there_45_44 (D : List UInt8) (S : ByteArray) (hS_ : S = ⟨D.toArray⟩) (hl : D.length ≤ 100000000) (he : endN (hS D) = 45) (hm : endN (cmdS D) = 44) (w : World) : Calls Try.prog 5 #[.string S] w (YesB w) := by
  have CH := Aside0.mk (fun w => house_val D S hS_ hl 45 he w)
  have CC := Aside0.mk (fun w => cmd_val D S hS_ hl 44 hm w)
  have HA1 := Aside0.mk (And.intro hS_ (And.intro hl (And.intro he hm)))
  clear hS_ hl he hm
  go_enter Try.func5, Try.ntmps5
  go_wp2_with (fail)
  refine (CH.out _).mono ?_
  rintro e w1 ⟨hb, vs, rfl, hA⟩
  obtain ⟨A0, c0, A1, c1, A2, c2, A3, c3, A4, c4, A5, c5, A6, c6, A7, c7, A8, c8, A9, c9, A10, c10, A11, c11, A12, c12, A13, c13, rfl, -⟩ := hA.shape
  have HA := Aside0.mk (And.intro hA hb)
  clear hb hA
  go_wp2_with (fail)
  refine (CC.out _).mono ?_
  rintro e w3 ⟨hb, B1, d1, B2, d2, rfl, r1, r2⟩
  have HB3 : Aside0 (Below w.heap.size w w3) := ⟨((HA.out.2.alloc HA.out.2.size _)).trans (hb.mono (by have := HA.out.2.size; simp; omega))⟩
  have HH3 : Aside0 (Below w1.heap.size w1 w3) := ⟨(alloc_below _ _).trans (hb.mono (by simp))⟩
  have g3 : Cs w1.heap.size 37 [.slice A0 (hR D 0).length c0, .slice A1 (hR D 1).length c1, .slice A2 (hR D 2).length c2, .slice A3 (hR D 3).length c3, .slice A4 (hR D 4).length c4, .slice A5 (hR D 5).length c5, .slice A6 (hR D 6).length c6, .slice A7 (hR D 7).length c7, .slice A8 (hR D 8).length c8, .slice A9 (hR D 9).length c9, .slice A10 (hR D 10).length c10, .slice A11 (hR D 11).length c11, .slice A12 (hR D 12).length c12, .slice A13 (hR D 13).length c13, .int .i64 (hZ D)] w3 := Cs.keep (cs_alloc w1 _ _ _ rfl) (hb.block _ (by simp))
  have G3 := Aside0.mk g3
  clear g3
  have HR3 := Aside0.mk (And.intro r1 r2)
  clear hb r1 r2

  have g3 := G3.out
  have k0 := g3.cell 0
  have k1 := g3.cell 1
  have k2 := g3.cell 2
  have k3 := g3.cell 3
  have k4 := g3.cell 4
  have k5 := g3.cell 5
  have k6 := g3.cell 6
  have k7 := g3.cell 7
  have k8 := g3.cell 8
  have k9 := g3.cell 9
  have k10 := g3.cell 10
  have k11 := g3.cell 11
  have k12 := g3.cell 12
  have k13 := g3.cell 13
  have k14 := g3.cell 14
  simp only [List.getElem?_cons_zero, List.getElem?_cons_succ] at k0 k1 k2 k3 k4 k5 k6 k7 k8 k9 k10 k11 k12 k13 k14
  have hlt3 := g3.lt
  clear g3
  go_wp2_with (fail)
  refine (Same_any (((HA.out.1.below HH3.out).to (hR_bad (D := D) (by rw [HA1.out.2.2.1]; decide)).1 (hR_bad (D := D) (by rw [HA1.out.2.2.1]; decide)).2).below (alloc_below _ _)) (houseA_nil _)).mono ?_
  rintro e w5 ⟨rfl, hb⟩
  have HB5 : Aside0 (Below w.heap.size w w5) := ⟨((HB3.out.alloc HB3.out.size _)).trans (hb.mono (by have := HB3.out.size; simp; omega))⟩
  clear hb
  go_wp2_with (fail)
  refine (awake_any _).mono ?_
  rintro e w6 ⟨rfl, hb⟩
  go_wp2
  go_ret
  exact ⟨rfl, HB5.out.trans (hb.mono HB5.out.size)⟩
set_option maxHeartbeats 16000000 in
set_option maxRecDepth 100000 in
theorem there_45_0 (D : List UInt8) (S : ByteArray) (hS_ : S = ⟨D.toArray⟩) (hl : D.length ≤ 100000000) (he : endN (hS D) = 45) (hm : endN (cmdS D) = 0) (w : World) : Calls Try.prog 5 #[.string S] w (YesB w) := by
  have CH := Aside0.mk (fun w => house_val D S hS_ hl 45 he w)
  have CC := Aside0.mk (fun w => cmd_val D S hS_ hl 0 hm w)
  have HA1 := Aside0.mk (And.intro hS_ (And.intro hl (And.intro he hm)))
  clear hS_ hl he hm
  go_enter Try.func5, Try.ntmps5
  go_wp2_with (fail)
  refine (CH.out _).mono ?_
  rintro e w1 ⟨hb, vs, rfl, hA⟩
  obtain ⟨A0, c0, A1, c1, A2, c2, A3, c3, A4, c4, A5, c5, A6, c6, A7, c7, A8, c8, A9, c9, A10, c10, A11, c11, A12, c12, A13, c13, rfl, -⟩ := hA.shape
  have HA := Aside0.mk (And.intro hA hb)
  clear hb hA
  go_wp2_with (fail)
  refine (CC.out _).mono ?_
  rintro e w3 ⟨hb, B1, d1, B2, d2, rfl, r1, r2⟩
  have HB3 : Aside0 (Below w.heap.size w w3) := ⟨((HA.out.2.alloc HA.out.2.size _)).trans (hb.mono (by have := HA.out.2.size; simp; omega))⟩
  have HH3 : Aside0 (Below w1.heap.size w1 w3) := ⟨(alloc_below _ _).trans (hb.mono (by simp))⟩
  have g3 : Cs w1.heap.size 37 [.slice A0 (hR D 0).length c0, .slice A1 (hR D 1).length c1, .slice A2 (hR D 2).length c2, .slice A3 (hR D 3).length c3, .slice A4 (hR D 4).length c4, .slice A5 (hR D 5).length c5, .slice A6 (hR D 6).length c6, .slice A7 (hR D 7).length c7, .slice A8 (hR D 8).length c8, .slice A9 (hR D 9).length c9, .slice A10 (hR D 10).length c10, .slice A11 (hR D 11).length c11, .slice A12 (hR D 12).length c12, .slice A13 (hR D 13).length c13, .int .i64 (hZ D)] w3 := Cs.keep (cs_alloc w1 _ _ _ rfl) (hb.block _ (by simp))
  have G3 := Aside0.mk g3
  clear g3
  have HR3 := Aside0.mk (And.intro r1 r2)
  clear hb r1 r2
  go_wp2_with (fail)
  refine (cmdBytes_val D S HA1.out.1 HA1.out.2.1 HA1.out.2.2.2 (HR3.out.1.below (alloc_below _ _)) (HR3.out.2.below (alloc_below _ _))).mono ?_
  rintro e w4 ⟨rfl, hb⟩
  have HB4 : Aside0 (Below w.heap.size w w4) := ⟨((HB3.out.alloc HB3.out.size _)).trans (hb.mono (by have := HB3.out.size; simp; omega))⟩
  have HH4 : Aside0 (Below w1.heap.size w1 w4) := ⟨HH3.out.trans ((alloc_below _ _).trans (hb.mono (by simp)) |>.mono HH3.out.size)⟩
  have g3 : Cs w1.heap.size 37 [.slice A0 (hR D 0).length c0, .slice A1 (hR D 1).length c1, .slice A2 (hR D 2).length c2, .slice A3 (hR D 3).length c3, .slice A4 (hR D 4).length c4, .slice A5 (hR D 5).length c5, .slice A6 (hR D 6).length c6, .slice A7 (hR D 7).length c7, .slice A8 (hR D 8).length c8, .slice A9 (hR D 9).length c9, .slice A10 (hR D 10).length c10, .slice A11 (hR D 11).length c11, .slice A12 (hR D 12).length c12, .slice A13 (hR D 13).length c13, .int .i64 (hZ D)] w4 := Cs.keep (Cs.keep G3.out ((alloc_below w3 _).block _ G3.out.lt)) (hb.block _ (by have := G3.out.lt; simp; omega))
  clear hb
  have k0 := g3.cell 0
  have k1 := g3.cell 1
  have k2 := g3.cell 2
  have k3 := g3.cell 3
  have k4 := g3.cell 4
  have k5 := g3.cell 5
  have k6 := g3.cell 6
  have k7 := g3.cell 7
  have k8 := g3.cell 8
  have k9 := g3.cell 9
  have k10 := g3.cell 10
  have k11 := g3.cell 11
  have k12 := g3.cell 12
  have k13 := g3.cell 13
  have k14 := g3.cell 14
  simp only [List.getElem?_cons_zero, List.getElem?_cons_succ] at k0 k1 k2 k3 k4 k5 k6 k7 k8 k9 k10 k11 k12 k13 k14
  clear g3
  go_wp2_with (fail)
  refine (Same_any ((HA.out.1.below HH4.out).to (hR_bad (D := D) (by rw [HA1.out.2.2.1]; decide)).1 (hR_bad (D := D) (by rw [HA1.out.2.2.1]; decide)).2) (houseA_nil _)).mono ?_
  rintro e w5 ⟨rfl, hb⟩
  have HB5 : Aside0 (Below w.heap.size w w5) := ⟨HB4.out.trans (hb.mono HB4.out.size)⟩
  clear hb
  go_wp2_with (fail)
  refine (awake_any _).mono ?_
  rintro e w6 ⟨rfl, hb⟩
  go_wp2
  go_ret
  exact ⟨rfl, HB5.out.trans (hb.mono HB5.out.size)⟩
set_option maxHeartbeats 16000000 in
set_option maxRecDepth 100000 in
theorem there_45_45 (D : List UInt8) (S : ByteArray) (hS_ : S = ⟨D.toArray⟩) (hl : D.length ≤ 100000000) (he : endN (hS D) = 45) (hm : endN (cmdS D) = 45) (w : World) : Calls Try.prog 5 #[.string S] w (YesB w) := by
  have CH := Aside0.mk (fun w => house_val D S hS_ hl 45 he w)
  have CC := Aside0.mk (fun w => cmd_val D S hS_ hl 45 hm w)
  have HA1 := Aside0.mk (And.intro hS_ (And.intro hl (And.intro he hm)))
  clear hS_ hl he hm
  go_enter Try.func5, Try.ntmps5
  go_wp2_with (fail)
  refine (CH.out _).mono ?_
  rintro e w1 ⟨hb, vs, rfl, hA⟩
  obtain ⟨A0, c0, A1, c1, A2, c2, A3, c3, A4, c4, A5, c5, A6, c6, A7, c7, A8, c8, A9, c9, A10, c10, A11, c11, A12, c12, A13, c13, rfl, -⟩ := hA.shape
  have HA := Aside0.mk (And.intro hA hb)
  clear hb hA
  go_wp2_with (fail)
  refine (CC.out _).mono ?_
  rintro e w3 ⟨hb, B1, d1, B2, d2, rfl, r1, r2⟩
  have HB3 : Aside0 (Below w.heap.size w w3) := ⟨((HA.out.2.alloc HA.out.2.size _)).trans (hb.mono (by have := HA.out.2.size; simp; omega))⟩
  have HH3 : Aside0 (Below w1.heap.size w1 w3) := ⟨(alloc_below _ _).trans (hb.mono (by simp))⟩
  have g3 : Cs w1.heap.size 37 [.slice A0 (hR D 0).length c0, .slice A1 (hR D 1).length c1, .slice A2 (hR D 2).length c2, .slice A3 (hR D 3).length c3, .slice A4 (hR D 4).length c4, .slice A5 (hR D 5).length c5, .slice A6 (hR D 6).length c6, .slice A7 (hR D 7).length c7, .slice A8 (hR D 8).length c8, .slice A9 (hR D 9).length c9, .slice A10 (hR D 10).length c10, .slice A11 (hR D 11).length c11, .slice A12 (hR D 12).length c12, .slice A13 (hR D 13).length c13, .int .i64 (hZ D)] w3 := Cs.keep (cs_alloc w1 _ _ _ rfl) (hb.block _ (by simp))
  have G3 := Aside0.mk g3
  clear g3
  have HR3 := Aside0.mk (And.intro r1 r2)
  clear hb r1 r2

  have g3 := G3.out
  have k0 := g3.cell 0
  have k1 := g3.cell 1
  have k2 := g3.cell 2
  have k3 := g3.cell 3
  have k4 := g3.cell 4
  have k5 := g3.cell 5
  have k6 := g3.cell 6
  have k7 := g3.cell 7
  have k8 := g3.cell 8
  have k9 := g3.cell 9
  have k10 := g3.cell 10
  have k11 := g3.cell 11
  have k12 := g3.cell 12
  have k13 := g3.cell 13
  have k14 := g3.cell 14
  simp only [List.getElem?_cons_zero, List.getElem?_cons_succ] at k0 k1 k2 k3 k4 k5 k6 k7 k8 k9 k10 k11 k12 k13 k14
  have hlt3 := g3.lt
  clear g3
  go_wp2_with (fail)
  refine (Same_any (((HA.out.1.below HH3.out).to (hR_bad (D := D) (by rw [HA1.out.2.2.1]; decide)).1 (hR_bad (D := D) (by rw [HA1.out.2.2.1]; decide)).2).below (alloc_below _ _)) (houseA_nil _)).mono ?_
  rintro e w5 ⟨rfl, hb⟩
  have HB5 : Aside0 (Below w.heap.size w w5) := ⟨((HB3.out.alloc HB3.out.size _)).trans (hb.mono (by have := HB3.out.size; simp; omega))⟩
  clear hb
  go_wp2_with (fail)
  refine (awake_any _).mono ?_
  rintro e w6 ⟨rfl, hb⟩
  go_wp2
  go_ret
  exact ⟨rfl, HB5.out.trans (hb.mono HB5.out.size)⟩
/-- The walk. -/
theorem there_walk (S : ByteArray) (hl : S.size ≤ 1048576) (w : World) : Calls Try.prog 5 #[.string S] w (YesB w) := by
  obtain ⟨D, hD, hDl⟩ : ∃ D : List UInt8, S = ⟨D.toArray⟩ ∧ D.length ≤ 100000000 := ⟨S.data.toList, by simp, by rw [Array.length_toList]; exact Nat.le_trans (show S.data.size ≤ 1048576 from hl) (by decide)⟩
  rcases endN_cases (hS D) with h | h | h <;> rcases endN_cases (cmdS D) with k | k | k
  · exact there_44_44 D S hD hDl h k w
  · exact there_44_0 D S hD hDl h k w
  · exact there_44_45 D S hD hDl h k w
  · exact there_0_44 D S hD hDl h k w
  · exact there_0_0 D S hD hDl h k w
  · exact there_0_45 D S hD hDl h k w
  · exact there_45_44 D S hD hDl h k w
  · exact there_45_0 D S hD hDl h k w
  · exact there_45_45 D S hD hDl h k w
end Go.Proofs.Ytgdoodeibcfcjaa.Wire
