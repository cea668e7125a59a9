/- The law SlotsPlays, walked. -/
import Derived.Test.YtojehachhfcfaaaBoth
import Derived.Test.YtojehachhfcfaaaArgsS
import Derived.Deep.RegionHeld3
import Derived.Deep.RegionWith
import Derived.Deep.DrawnRows
import Derived.Deep.QuietTactic
import Derived.BigQuiet
import Derived.Deep.DeepCutAuto
import Derived.Deep.CutBlock
set_option linter.unusedVariables false
set_option linter.unusedSimpArgs false
namespace Go.Proofs.Ytojehachhfcfaaa.LawPlays
open Go.RowKit Go.Proofs.Ytojehachhfcfaaa.SumPure Go.Proofs.Ytojehachhfcfaaa.SlSect Go.Proofs.Ytojehachhfcfaaa.Save Go.Proofs.Ytojehachhfcfaaa.SlPure Go.Proofs.Ytojehachhfcfaaa.SlLaw Go.Proofs.Ytojehachhfcfaaa.RefP Go.Proofs.Ytojehachhfcfaaa.AtX Go.Proofs.Ytojehachhfcfaaa.Both
open Go.Proofs.YtojehachhfcfaaaW.PrintWords Go.Proofs.YtojehachhfcfaaaW.PrintLast Go.Proofs.YtojehachhfcfaaaW.PrintMore
open Go.Proofs.Ytojehachhfcfaaa.Med (IsMed Med Ranged IsSize)
open Go.Proofs.Ytojehachhfcfaaa.Ref (R IsRef)
open Go.Proofs.Ytojehachhfcfaaa.Args
attribute [local go_sem] max2_int min2_int max_two min_two
attribute [local go_sem ↓] Go.wp_at_zero Go.wp_at_succ
/-- A call's six numbers stand in block g. -/
def Six (g : Nat) (z0 z1 z2 z3 z4 z5 : Int) (w : World) : Prop := w.heap[g]? = some (.cells #[.int .i64 z0, .int .i64 z1, .int .i64 z2, .int .i64 z3, .int .i64 z4, .int .i64 z5] 59 (0, 0))
section
variable {g : Nat} {z0 z1 z2 z3 z4 z5 : Int} {w w' : World}
theorem Six.c0 (h : Six g z0 z1 z2 z3 z4 z5 w) : w.cell? ⟨g, 0, none⟩ = some (.int .i64 z0) := by unfold Six at h; simp [World.cell?, h]
theorem Six.c1 (h : Six g z0 z1 z2 z3 z4 z5 w) : w.cell? ⟨g, 1, none⟩ = some (.int .i64 z1) := by unfold Six at h; simp [World.cell?, h]
theorem Six.c2 (h : Six g z0 z1 z2 z3 z4 z5 w) : w.cell? ⟨g, 2, none⟩ = some (.int .i64 z2) := by unfold Six at h; simp [World.cell?, h]
theorem Six.c3 (h : Six g z0 z1 z2 z3 z4 z5 w) : w.cell? ⟨g, 3, none⟩ = some (.int .i64 z3) := by unfold Six at h; simp [World.cell?, h]
theorem Six.c4 (h : Six g z0 z1 z2 z3 z4 z5 w) : w.cell? ⟨g, 4, none⟩ = some (.int .i64 z4) := by unfold Six at h; simp [World.cell?, h]
theorem Six.c5 (h : Six g z0 z1 z2 z3 z4 z5 w) : w.cell? ⟨g, 5, none⟩ = some (.int .i64 z5) := by unfold Six at h; simp [World.cell?, h]
theorem Six.same (h : Six g z0 z1 z2 z3 z4 z5 w) (k : Same (fun j => j = g) w w') : Six g z0 z1 z2 z3 z4 z5 w' := (k g rfl).trans h
theorem Six.below (h : Six g z0 z1 z2 z3 z4 z5 w) (k : Below w.heap.size w w') : Six g z0 z1 z2 z3 z4 z5 w' := (k.block g (Array.getElem?_eq_some_iff.1 h).1).trans h
end
set_option maxHeartbeats 4000000 in
set_option maxRecDepth 100000 in
theorem sectors_z (a0 : Int) (r : Int) (w : World) (h : slots_Sectors.f a0 = some r) :
    Calls Try.prog 25 #[.int .i64 a0] w fun e w' => e = .returned (.int .i64 r) ∧ w' = w := by
  have H : (some (mx 1 (wrap64 (Int.tdiv (wrap64 ((wrap64 ((mx a0 0) + 53)) - 1)) 53)))) = some r := h
  clear h
  obtain ⟨ji2, hji2⟩ : ∃ j_ : Int, (mx a0 0) = j_ := ⟨_, rfl⟩
  replace H : (some (mx 1 (wrap64 (Int.tdiv (wrap64 ((wrap64 ((ji2) + 53)) - 1)) 53)))) = some r := by rw [hji2] at H; exact H
  have hji2l : 0 ≤ ji2 := by rw [← hji2]; unfold mx; (repeat' split) <;> omega
  have hji2_ : (if a0 < 0 then 0 else a0) = ji2 := hji2
  obtain ⟨ji3, hji3⟩ : ∃ j_ : Int, (mx 1 (wrap64 (Int.tdiv (wrap64 ((wrap64 ((ji2) + 53)) - 1)) 53))) = j_ := ⟨_, rfl⟩
  replace H : (some ji3) = some r := by rw [hji3] at H; exact H
  have hji3_ : (if 1 < (wrap64 (Int.tdiv (wrap64 ((wrap64 ((ji2) + 53)) - 1)) 53)) then (wrap64 (Int.tdiv (wrap64 ((wrap64 ((ji2) + 53)) - 1)) 53)) else 1) = ji3 := hji3
  obtain rfl := Option.some.inj H
  go_enter Try.func25, Try.ntmps25
  go_wp2
  go_ret
  exact ⟨by first | rfl | (simp [*]; done), rfl⟩
set_option maxHeartbeats 4000000 in
set_option maxRecDepth 100000 in
theorem rsectors_z (a0 : Int) (r : Int) (w : World) (h : stevedoreref06_Sectors.f a0 = some r) :
    Calls Try.prog 39 #[.int .i64 a0] w fun e w' => e = .returned (.int .i64 r) ∧ w' = w := by
  have H : (some (mx 1 (wrap64 (Int.tdiv (wrap64 ((wrap64 ((mx a0 0) + 53)) - 1)) 53)))) = some r := h
  clear h
  obtain ⟨ji2, hji2⟩ : ∃ j_ : Int, (mx a0 0) = j_ := ⟨_, rfl⟩
  replace H : (some (mx 1 (wrap64 (Int.tdiv (wrap64 ((wrap64 ((ji2) + 53)) - 1)) 53)))) = some r := by rw [hji2] at H; exact H
  have hji2l : 0 ≤ ji2 := by rw [← hji2]; unfold mx; (repeat' split) <;> omega
  have hji2_ : (if a0 < 0 then 0 else a0) = ji2 := hji2
  obtain ⟨ji3, hji3⟩ : ∃ j_ : Int, (mx 1 (wrap64 (Int.tdiv (wrap64 ((wrap64 ((ji2) + 53)) - 1)) 53))) = j_ := ⟨_, rfl⟩
  replace H : (some ji3) = some r := by rw [hji3] at H; exact H
  have hji3_ : (if 1 < (wrap64 (Int.tdiv (wrap64 ((wrap64 ((ji2) + 53)) - 1)) 53)) then (wrap64 (Int.tdiv (wrap64 ((wrap64 ((ji2) + 53)) - 1)) 53)) else 1) = ji3 := hji3
  obtain rfl := Option.some.inj H
  go_enter Try.func39, Try.ntmps39
  go_wp2
  go_ret
  exact ⟨by first | rfl | (simp [*]; done), rfl⟩
/-- What stands behind the switch. -/
def Tail (w : World) (b br n XB : Nat) (z0 z1 z2 z3 z4 z5 : Int) (wx : World) : Prop := ∃ M r, Both w (fun j => j = XB) b M br r n wx ∧ Six XB z0 z1 z2 z3 z4 z5 wx
set_option maxHeartbeats 16000000 in
set_option maxRecDepth 100000 in
theorem walk (a0 : Option Addr) (len0 cap0 : Nat) (w : World) (h0 : HasRows w a0 len0 6) :
    Calls Try.prog 10 #[.slice a0 len0 cap0] w fun e w' => e = .returned (.bool true) ∧ Below w.heap.size w w' := by
  have l0le := h0.le
  have H0 := Aside0.mk h0
  clear h0
  go_enter Try.func10, Try.ntmps10
  go_wp2_with (fail)
  refine (AtX.new w).mono ?_
  rintro e w1 ⟨b, rfl, hh⟩
  go_wp2_with (fail)
  refine (Both.new hh).mono ?_
  rintro e w2 ⟨br, rfl, hh2⟩
  have HB := Aside0.mk hh2
  clear hh hh2
  go_wp2_with (fail)
  go_loopw [5] (fun v5 wr => ∃ (i : Nat) (M : Med) (r : R), i ≤ 200 ∧ i ≤ len0 ∧ v5 = .int .i64 i ∧ Aside0 (Both w (fun _ => False) b M br r (600 * i) wr)) (fun v5 _ => 200 - (intOf v5).toNat)
  case atStart => exact ⟨0, Med.new, R.new, by omega, by omega, rfl, ⟨HB.out⟩⟩
  case round =>
    obtain ⟨i, M, r, hi, hi0, rfl, HM⟩ := hrel
    clear HB
    by_cases hlt : i < len0 ∧ i < 200
    · obtain ⟨hlt, h200⟩ := hlt
      obtain ⟨x0, rfl, hc⟩ := H0.out.at HM.out.below hlt
      obtain ⟨z0, d0, l0, u0⟩ := hc 0 (by omega)
      obtain ⟨z1, d1, l1, u1⟩ := hc 1 (by omega)
      rw [← add_off x0 (i * 6) 1 (by decide)] at d1
      obtain ⟨z2, d2, l2, u2⟩ := hc 2 (by omega)
      rw [← add_off x0 (i * 6) 2 (by decide)] at d2
      obtain ⟨z3, d3, l3, u3⟩ := hc 3 (by omega)
      rw [← add_off x0 (i * 6) 3 (by decide)] at d3
      obtain ⟨z4, d4, l4, u4⟩ := hc 4 (by omega)
      rw [← add_off x0 (i * 6) 4 (by decide)] at d4
      obtain ⟨z5, d5, l5, u5⟩ := hc 5 (by omega)
      rw [← add_off x0 (i * 6) 5 (by decide)] at d5
      clear hc
      rw [Nat.add_zero] at d0
      go_upto_block 2 with (fail)
      go_name_world w3 hw3
      obtain ⟨XB, hXB⟩ : ∃ XB, XB = wr.heap.size := ⟨_, rfl⟩
      rw [← hXB]
      have HS : Aside0 (Six XB z0 z1 z2 z3 z4 z5 w3) := ⟨by rw [← hw3, hXB]; exact heap_alloc_new wr _⟩
      have HB3 : Aside0 (Both w (fun j => j = XB) b M br r (600 * i) w3) := ⟨by
        rw [← hw3]
        exact HM.out.more ((Below.refl _ wr).alloc (Nat.le_refl _) _) _ fun j hj => ⟨by omega, by simp; omega⟩⟩
      clear hw3 hXB d0 d1 d2 d3 d4 d5 HM
      go_cut [] (fun wx => Tail w b br (600 * (i + 1)) XB z0 z1 z2 z3 z4 z5 wx)
      case first =>
        have HH : Aside0 (Half w (fun j => j = XB) b M br r (600 * i) w3 ∧ Six XB z0 z1 z2 z3 z4 z5 w3) := ⟨HB3.out.half, HS.out⟩
        have e0 := HH.out.2.c0
        by_cases q0 : z0 = 0
        · have q0b : (z0 == 0) = true := by rw [q0]; rfl
          clear q0
          have e1 := HH.out.2.c1
          have e2 := HH.out.2.c2
          have e3 := HH.out.2.c3
          obtain ⟨D, hD⟩ : ∃ D, D = fillL z2 z3 := ⟨_, rfl⟩
          have hDl : D.length ≤ 5000 := by rw [hD, Fill.fillL_len]; omega
          have hrs := HB3.out.rel.save z1 D
          obtain ⟨M1, ec, hsv⟩ : ∃ M1 ec, save M z1 D = (M1, ec) := ⟨_, _, rfl⟩
          obtain ⟨r1, er, hrv⟩ : ∃ r1 er, rsave r z1 D = (r1, er) := ⟨_, _, rfl⟩
          rw [hsv, hrv] at hrs
          obtain ⟨hce, hrel1⟩ := hrs
          have hce' : er = ec := hce.symm
          subst hce'
          have HRL := Aside0.mk hrel1
          have cfill : ∀ W, Calls Try.prog 22 #[.int .i64 z2, .int .i64 z3] W fun e w' => e = .returned (.string ⟨D.toArray⟩) ∧ Below W.heap.size W w' := fun W => by rw [hD]; exact Fill.fill_any z2 z3 W
          have csave : ∀ W, Half w (fun j => j = XB) b M br r (600 * i) W → Calls Try.prog 24 #[.pointer (some ⟨b, 0, none⟩), .int .i64 z1, .string ⟨D.toArray⟩] W fun e w' => e = .returned (.int .i64 er) ∧ Half w (fun j => j = XB) b M1 br r (600 * i + 300) w' ∧ Same (fun j => j = XB) W w' := fun W h => by
            have := h.save z1 ⟨D.toArray⟩ (by rw [size_mk]; omega) (by omega)
            rw [show (⟨D.toArray⟩ : ByteArray).data.toList = D from by simp, hsv, size_mk] at this
            exact this.mono fun e w' k => ⟨k.1, ⟨(k.2.1.mono (show 600 * i + 3 * scnt D.length ≤ 600 * i + 300 by unfold scnt; omega)).ex⟩, k.2.2⟩
          have crsave : ∀ W, Half w (fun j => j = XB) b M1 br r (600 * i + 300) W → Calls Try.prog 30 #[.pointer (some ⟨br, 0, none⟩), .int .i64 z1, .string ⟨D.toArray⟩] W fun e w' => e = .returned (.int .i64 er) ∧ Half w (fun j => j = XB) b M1 br r1 (600 * i + 600) w' ∧ Same (fun j => j = XB) W w' := fun W h => by
            have := h.rsave z1 ⟨D.toArray⟩ (by omega)
            rw [show (⟨D.toArray⟩ : ByteArray).data.toList = D from by simp, hrv, size_mk] at this
            exact this.mono fun e w' k => ⟨k.1, ⟨(k.2.1.mono (show 600 * i + 300 + 2 * scnt D.length ≤ 600 * i + 600 by unfold scnt; omega)).ex⟩, k.2.2⟩
          have HCC := Aside0.mk (And.intro cfill (And.intro csave crsave))
          clear cfill csave crsave hrel1 hce hsv hrv hD hDl
          have HH1 : Aside0 (Half w (fun j => j = XB) b M br r (600 * i) (w3.drewN 1) ∧ Six XB z0 z1 z2 z3 z4 z5 (w3.drewN 1)) := ⟨(HH.out.1.after (Ref06.drewN_below (Below.refl _ _) 1)).1, HH.out.2⟩
          go_upto_region 11 with (fail)
          go_region_held3 (fun w' => w'.cell? ⟨XB, 1, none⟩ = some (.int .i64 z1) ∧ w'.cell? ⟨XB, 2, none⟩ = some (.int .i64 z2) ∧ w'.cell? ⟨XB, 3, none⟩ = some (.int .i64 z3)) (first | (go_split_ands; assumption) | (refine ⟨?_, ?_, ?_⟩ <;> assumption) | go_keep) (first
            | (go_at_call 22; have _t := HBs; refine (HCC.out.1 _).mono ?_; rintro e wC ⟨rfl, hk⟩; have HC : Aside0 (Half w (fun j => j = XB) b M1 br r (600 * i + 300) wC ∧ Six XB z0 z1 z2 z3 z4 z5 wC) := ⟨(HBs.out.1.after hk).1, Six.below HBs.out.2 hk⟩; clear hk; have g1 := HC.out.2.c1; have g2 := HC.out.2.c2; have g3 := HC.out.2.c3)
            | (go_at_call 22; refine (HCC.out.1 _).mono ?_; rintro e wA ⟨rfl, hk⟩; have HA : Aside0 (Half w (fun j => j = XB) b M br r (600 * i) wA ∧ Six XB z0 z1 z2 z3 z4 z5 wA) := ⟨(HH1.out.1.after hk).1, Six.below (w := w3.drewN 1) HH1.out.2 hk⟩; clear hk; have f1 := HA.out.2.c1; have f2 := HA.out.2.c2; have f3 := HA.out.2.c3)
            | (go_at_call 24; refine (HCC.out.2.1 _ HA.out.1).mono ?_; rintro e wB ⟨rfl, hk, hs⟩; have HBs : Aside0 (Half w (fun j => j = XB) b M1 br r (600 * i + 300) wB ∧ Six XB z0 z1 z2 z3 z4 z5 wB) := ⟨hk, Six.same HA.out.2 hs⟩; clear hk hs; have k1 := HBs.out.2.c1; have k2 := HBs.out.2.c2; have k3 := HBs.out.2.c3)
            | (go_at_call 30; refine (HCC.out.2.2 _ HC.out.1).mono ?_; rintro e wD ⟨rfl, hk, hs⟩; have HD : Aside0 (Half w (fun j => j = XB) b M1 br r1 (600 * i + 600) wD ∧ Six XB z0 z1 z2 z3 z4 z5 wD) := ⟨hk, Six.same HC.out.2 hs⟩; clear hk hs; have m1 := HD.out.2.c1; have m2 := HD.out.2.c2; have m3 := HD.out.2.c3))
          all_goals
            go_wp2
            go_meet
            exact ⟨M1, r1, (HD.out.1.both HRL.out).mono (by omega), HD.out.2⟩
        · have q0b : (z0 == 0) = false := by rw [beq_eq_false_iff_ne]; exact q0
          clear q0
          by_cases q1 : z0 = 1
          · have q1b : (z0 == 1) = true := by rw [q1]; rfl
            clear q1
            have e4 := HH.out.2.c4
            go_wp2_with (fail)
            refine (HH.out.1.arm z4 (by omega)).mono ?_
            rintro e wA ⟨rfl, hk, hs⟩
            have HA : Aside0 (Half w (fun j => j = XB) b (M.arm z4) br r (600 * i) wA ∧ Six XB z0 z1 z2 z3 z4 z5 wA) := ⟨hk, Six.same HH.out.2 hs⟩
            clear hk hs
            have e4A := HA.out.2.c4
            go_wp2_with (fail)
            refine (HA.out.1.rarm z4 (by omega)).mono ?_
            rintro e wB ⟨rfl, hk, hs⟩
            have HC : Aside0 (Half w (fun j => j = XB) b (M.arm z4) br (r.arm z4) (600 * i) wB ∧ Six XB z0 z1 z2 z3 z4 z5 wB) := ⟨hk, Six.same HA.out.2 hs⟩
            clear hk hs
            go_wp2
            go_meet
            exact ⟨M.arm z4, r.arm z4, (HC.out.1.both (HB3.out.rel.arm z4)).mono (by omega), HC.out.2⟩
          · have q1b : (z0 == 1) = false := by rw [beq_eq_false_iff_ne]; exact q1
            clear q1
            by_cases q2 : z0 = 2
            · have q2b : (z0 == 2) = true := by rw [q2]; rfl
              clear q2
              have hrn := HB3.out.rel.on
              have hld := rload_is (M := M.on) rfl
              obtain ⟨ln, ls, le, hnw⟩ : ∃ n s e, newest M.on = (n, s, e) := ⟨_, _, _, rfl⟩
              rw [hnw] at hld
              have HRN := Aside0.mk (And.intro hrn (And.intro hld hnw))
              clear hrn hld hnw
              go_wp2_with (fail)
              refine (HH.out.1.on).mono ?_
              rintro e wA ⟨rfl, hk, hs⟩
              have HA : Aside0 (Half w (fun j => j = XB) b M.on br r (600 * i) wA ∧ Six XB z0 z1 z2 z3 z4 z5 wA) := ⟨hk, Six.same HH.out.2 hs⟩
              clear hk hs
              go_wp2_with (fail)
              refine (HA.out.1.ron).mono ?_
              rintro e wB ⟨rfl, hk, hs⟩
              have HC : Aside0 (Half w (fun j => j = XB) b M.on br r.on (600 * i) wB ∧ Six XB z0 z1 z2 z3 z4 z5 wB) := ⟨hk, Six.same HA.out.2 hs⟩
              clear hk hs
              go_wp2_with (fail)
              have hload := HC.out.1.load
              rw [HRN.out.2.2] at hload
              refine hload.mono ?_
              rintro e wD ⟨rfl, hk, hs⟩
              have HD : Aside0 (Half w (fun j => j = XB) b M.on br r.on (600 * i) wD ∧ Six XB z0 z1 z2 z3 z4 z5 wD) := ⟨hk, Six.same HC.out.2 hs⟩
              clear hk hs hload
              go_wp2_with (fail)
              have hrload := HD.out.1.rload HRN.out.1 (by omega)
              rw [HRN.out.2.1] at hrload
              refine hrload.mono ?_
              rintro e wE ⟨rfl, hk, hs⟩
              have HE : Aside0 (Half w (fun j => j = XB) b M.on br r.on (600 * i) wE ∧ Six XB z0 z1 z2 z3 z4 z5 wE) := ⟨hk, Six.same HD.out.2 hs⟩
              clear hk hs hrload
              go_wp2
              go_meet
              exact ⟨M.on, r.on, (HE.out.1.both HRN.out.1).mono (by omega), HE.out.2⟩
            · have q2b : (z0 == 2) = false := by rw [beq_eq_false_iff_ne]; exact q2
              clear q2
              by_cases q3 : z0 = 3
              · have q3b : (z0 == 3) = true := by rw [q3]; rfl
                clear q3
                have e1 := HH.out.2.c1
                have e2 := HH.out.2.c2
                have e3 := HH.out.2.c3
                obtain ⟨D, hD⟩ : ∃ D, D = fillL z2 z3 := ⟨_, rfl⟩
                have hDl : D.length ≤ 5000 := by rw [hD, Fill.fillL_len]; omega
                have cfill : ∀ W, Calls Try.prog 22 #[.int .i64 z2, .int .i64 z3] W fun e w' => e = .returned (.string ⟨D.toArray⟩) ∧ Below W.heap.size W w' := fun W => by rw [hD]; exact Fill.fill_any z2 z3 W
                have clay := fun W => Ref06.lay_calls z1 ⟨D.toArray⟩ W
                simp only [size_mk, show (⟨D.toArray⟩ : ByteArray).data.toList = D from by simp] at clay
                have hqp := scnt_pos D.length
                have hq95 : scnt D.length ≤ 95 := by unfold scnt; omega
                have HFL := Aside0.mk cfill
                have HDL := Aside0.mk hDl
                clear cfill hD hDl
                have HH1 : Aside0 (Half w (fun j => j = XB) b M br r (600 * i) (w3.drewN 1) ∧ Six XB z0 z1 z2 z3 z4 z5 (w3.drewN 1)) := ⟨(HH.out.1.after (Ref06.drewN_below (Below.refl _ _) 1)).1, HH.out.2⟩
                go_upto_region 24 with (fail)
                by_cases hbad : z1 < 1 ∨ z1 > 2147483647 ∨ D.length > 1000000
                · simp only [if_pos hbad] at clay
                  have HLY := Aside0.mk clay
                  clear clay hbad
                  go_region_held3 (fun w' => w'.cell? ⟨XB, 1, none⟩ = some (.int .i64 z1) ∧ w'.cell? ⟨XB, 2, none⟩ = some (.int .i64 z2) ∧ w'.cell? ⟨XB, 3, none⟩ = some (.int .i64 z3)) (first | (go_split_ands; assumption) | (refine ⟨?_, ?_, ?_⟩ <;> assumption) | go_keep) (first
                    | (go_at_call 22; refine (HFL.out _).mono ?_; rintro e wA ⟨rfl, hk⟩; have HA : Aside0 (Half w (fun j => j = XB) b M br r (600 * i) wA ∧ Six XB z0 z1 z2 z3 z4 z5 wA) := ⟨(HH1.out.1.after hk).1, Six.below (w := w3.drewN 1) HH1.out.2 hk⟩; clear hk; have f1 := HA.out.2.c1; have f2 := HA.out.2.c2; have f3 := HA.out.2.c3)
                    | (go_at_call 34; refine (HLY.out _).mono ?_; rintro e wB ⟨⟨A, c, rfl⟩, hk⟩; have HBl : Aside0 (Half w (fun j => j = XB) b M br r (600 * i) wB ∧ Six XB z0 z1 z2 z3 z4 z5 wB) := ⟨(HA.out.1.after hk).1, Six.below HA.out.2 hk⟩; clear hk; have g1 := HBl.out.2.c1; have g2 := HBl.out.2.c2; have g3 := HBl.out.2.c3))
                  all_goals
                    go_wp2
                    go_roundw
                    case rel => exact ⟨i + 1, M, r, by omega, by omega, by go_num, ⟨((HBl.out.1.both HB3.out.rel).mono (by omega)).less⟩⟩
                    case measure => simp [intOf]; omega
                · simp only [if_neg hbad] at clay
                  have HLY := Aside0.mk clay
                  clear clay hbad
                  have ht0 := Int.tmod_lt_of_pos z4 (show (0 : Int) < (scnt D.length : Int) by omega)
                  have ht1 := Int.tmod_lt_of_pos (-z4) (show (0 : Int) < (scnt D.length : Int) by omega)
                  rw [Int.neg_tmod] at ht1
                  have ht1' : -(scnt D.length : Int) < z4.tmod (scnt D.length : Int) := by omega
                  clear ht1
                  go_region_held3 (fun w' => w'.cell? ⟨XB, 1, none⟩ = some (.int .i64 z1) ∧ w'.cell? ⟨XB, 2, none⟩ = some (.int .i64 z2) ∧ w'.cell? ⟨XB, 3, none⟩ = some (.int .i64 z3)) (first | (go_split_ands; assumption) | (refine ⟨?_, ?_, ?_⟩ <;> assumption) | go_keep) (first
                    | (go_at_call 22; refine (HFL.out _).mono ?_; rintro e wA ⟨rfl, hk⟩; have HA : Aside0 (Half w (fun j => j = XB) b M br r (600 * i) wA ∧ Six XB z0 z1 z2 z3 z4 z5 wA) := ⟨(HH1.out.1.after hk).1, Six.below (w := w3.drewN 1) HH1.out.2 hk⟩; clear hk; have f1 := HA.out.2.c1; have f2 := HA.out.2.c2; have f3 := HA.out.2.c3)
                    | (go_at_call 34; refine (HLY.out _).mono ?_; rintro e wB ⟨⟨A, c, rfl, hsx⟩, hk⟩; have HBl : Aside0 (Half w (fun j => j = XB) b M br r (600 * i) wB ∧ Six XB z0 z1 z2 z3 z4 z5 wB) := ⟨(HA.out.1.after hk).1, Six.below HA.out.2 hk⟩; obtain ⟨x, hx, hx1, hx2, hx3⟩ := hsx.cell; subst hx; have HSX : Aside0 (Half w (fun j => j = XB ∨ j = x.block) b M br r (600 * i) wB ∧ ∀ j, j < scnt D.length → wB.cell? (x.add j) = some (.string (ssec z1 D (scnt D.length) j))) := ⟨HA.out.1.wider hk _ (fun j hj => by rcases hj with h | h; exact ⟨.inl h, by rw [h]; exact (Array.getElem?_eq_some_iff.1 HBl.out.2).1⟩; exact ⟨.inr (by rw [h]; exact hx1), by rw [h]; exact hx2⟩), hx3⟩; have hcap := hsx.cap; clear hk hsx hx1 hx2 hx3; have g1 := HBl.out.2.c1; have g2 := HBl.out.2.c2; have g3 := HBl.out.2.c3; have g4 := HBl.out.2.c4; have g5 := HBl.out.2.c5))
                  all_goals
                    go_upto_region 29 with (fail)
                    have i0 : 0 ≤ (z4.tmod (scnt D.length : Int) + (scnt D.length : Int)) % (scnt D.length : Int) := Int.emod_nonneg _ (by omega)
                    have i1 : (z4.tmod (scnt D.length : Int) + (scnt D.length : Int)) % (scnt D.length : Int) < (scnt D.length : Int) := Int.emod_lt_of_pos _ (by omega)
                    generalize (z4.tmod (scnt D.length : Int) + (scnt D.length : Int)) % (scnt D.length : Int) = kk at *
                    obtain ⟨kn, rfl⟩ : ∃ kn : Nat, kk = kn := ⟨kk.toNat, by omega⟩
                    have hkn : kn < scnt D.length := by omega
                    generalize (if (1 : Int) < (if z3 < 0 then (0 : Int) else z3) then (1 : Int) else (if z3 < 0 then (0 : Int) else z3)) = fi at *
                    generalize (if (100 : Int) < (if z5 < 0 then (0 : Int) else z5) then (100 : Int) else (if z5 < 0 then (0 : Int) else z5)) = ai at *
                    generalize (if z3 < 0 then (0 : Int) else z3) = fj at *
                    generalize (if z5 < 0 then (0 : Int) else z5) = aj at *
                    have hcell := HSX.out.2 kn hkn
                    obtain ⟨S, hS⟩ : ∃ S, S = ssec z1 D (scnt D.length) kn := ⟨_, rfl⟩
                    have hS64 : S.size ≤ 64 := by rw [hS, ssec_size]; omega
                    rw [← hS] at hcell
                    have hrw := HB3.out.rel.write fi ai S
                    obtain ⟨M1, ec, hsv⟩ : ∃ M1 ec, M.write fi ai S = (M1, ec) := ⟨_, _, rfl⟩
                    obtain ⟨r1, er, hrv⟩ : ∃ r1 er, r.write fi ai S = (r1, er) := ⟨_, _, rfl⟩
                    rw [hsv, hrv] at hrw
                    obtain ⟨hce, hrel1⟩ := hrw
                    have hce' : er = ec := hce.symm
                    subst hce'
                    have HRL := Aside0.mk hrel1
                    have cw : ∀ W, Half w (fun j => j = XB ∨ j = x.block) b M br r (600 * i) W → Calls Try.prog 35 #[.pointer (some ⟨b, 0, none⟩), .int .i64 fi, .int .i64 ai, .string S] W fun e w' => e = .returned (.int .i64 er) ∧ Half w (fun j => j = XB ∨ j = x.block) b M1 br r (600 * i + 3) w' ∧ Same (fun j => j = XB ∨ j = x.block) W w' := fun W h => by
                      have := h.write fi ai S (by omega) (by omega)
                      rw [hsv] at this
                      exact this
                    have crw : ∀ W, Half w (fun j => j = XB ∨ j = x.block) b M1 br r (600 * i + 3) W → Calls Try.prog 36 #[.pointer (some ⟨br, 0, none⟩), .int .i64 fi, .int .i64 ai, .string S] W fun e w' => e = .returned (.int .i64 er) ∧ Half w (fun j => j = XB ∨ j = x.block) b M1 br r1 (600 * i + 3 + 2) w' ∧ Same (fun j => j = XB ∨ j = x.block) W w' := fun W h => by
                      have := h.rwrite fi ai S (by omega) (by omega)
                      rw [hrv] at this
                      exact this
                    have HCW := Aside0.mk (And.intro cw crw)
                    have HW1 : Aside0 (∀ k, Half w (fun j => j = XB ∨ j = x.block) b M br r (600 * i) (wB.drewN k) ∧ Six XB z0 z1 z2 z3 z4 z5 (wB.drewN k)) := ⟨fun k => ⟨(HSX.out.1.after (Ref06.drewN_below (Below.refl _ _) k)).1, HBl.out.2⟩⟩
                    clear cw crw hrel1 hce hsv hrv hS hS64
                    go_region_held3 (fun w' => w'.cell? (x.add kn) = some (.string S)) (first | assumption | go_keep) (first
                      | (go_at_call 35; refine (HCW.out.1 _ (HW1.out 1).1).mono ?_; rintro e wC ⟨rfl, hk, hs⟩; have HCc : Aside0 (Half w (fun j => j = XB ∨ j = x.block) b M1 br r (600 * i + 3) wC ∧ Six XB z0 z1 z2 z3 z4 z5 wC) := ⟨hk, (hs XB (.inl rfl)).trans (HW1.out 1).2⟩; have hcC : wC.cell? (x.add kn) = some (.string S) := (World.cell?_of_block (by rw [Ref06.block_of_add]; exact hs x.block (.inr rfl))).trans hcell; clear hk hs)
                      | (go_at_call 36; refine (HCW.out.2 _ HCc.out.1).mono ?_; rintro e wD ⟨rfl, hk, hs⟩; have HDd : Aside0 (Half w (fun j => j = XB ∨ j = x.block) b M1 br r1 (600 * i + 3 + 2) wD ∧ Six XB z0 z1 z2 z3 z4 z5 wD) := ⟨hk, (hs XB (.inl rfl)).trans HCc.out.2⟩; have hcD : wD.cell? (x.add kn) = some (.string S) := (World.cell?_of_block (by rw [Ref06.block_of_add]; exact hs x.block (.inr rfl))).trans hcC; clear hk hs))
                    all_goals
                      go_wp2
                      go_meet
                      exact ⟨M1, r1, ((HDd.out.1.narrow (fun j => j = XB) (fun j h => .inl h)).both HRL.out).mono (by omega), HDd.out.2⟩
              · have q3b : (z0 == 3) = false := by rw [beq_eq_false_iff_ne]; exact q3
                clear q3
                go_wp2
                go_meet
                exact ⟨M, r, HB3.out.mono (by omega), HS.out⟩
      case rest =>
        obtain ⟨M', r', hB, hS⟩ := hcut
        have HB := Aside0.mk hB
        have HS4 := Aside0.mk hS
        clear hB hS HS HB3
        have e2 := HS4.out.c2
        have hwr := HB.out.rel.wr
        have HWR := Aside0.mk hwr
        obtain ⟨q, hq⟩ : ∃ q, slots_Sectors.f z2 = some q := ⟨_, rfl⟩
        have cs1 : ∀ W, Calls Try.prog 25 #[.int .i64 z2] W fun e w' => e = .returned (.int .i64 q) ∧ w' = W := fun W => sectors_z z2 q W hq
        have cs2 : ∀ W, Calls Try.prog 39 #[.int .i64 z2] W fun e w' => e = .returned (.int .i64 q) ∧ w' = W := fun W => rsectors_z z2 q W hq
        clear hq hwr
        have hw1 : ∀ k, Calls Try.prog 37 #[.pointer (some ⟨b, 0, none⟩)] (wc.drewN k) fun e w' => e = .returned (.int .i64 M'.writes) ∧ w' = wc.drewN k := fun k => (HB.out.half.after (Ref06.drewN_below (Below.refl _ _) k)).1.writes
        have hw2 : ∀ k, Calls Try.prog 38 #[.pointer (some ⟨br, 0, none⟩)] (wc.drewN k) fun e w' => e = .returned (.int .i64 M'.writes) ∧ w' = wc.drewN k := fun k => by
          have := (HB.out.half.after (Ref06.drewN_below (Below.refl _ _) k)).1.rwrites
          rw [← HWR.out] at this
          exact this
        have HCW := Aside0.mk (And.intro hw1 (And.intro hw2 (And.intro cs1 cs2)))
        clear hw1 hw2 cs1 cs2
        go_upto_region 31 with (fail)
        go_quiet ((first
          | (go_at_call 37; exact Calls.quiet_of_same (HCW.out.1 _))
          | (go_at_call 38; exact Calls.quiet_of_same (HCW.out.2.1 _))
          | (go_at_call 25; exact Calls.quiet_of_same (HCW.out.2.2.1 _))
          | (go_at_call 39; exact Calls.quiet_of_same (HCW.out.2.2.2 _))))
        all_goals
          go_wp2
          go_roundw
          case rel => exact ⟨i + 1, M', r', by omega, by omega, by go_num, ⟨(HB.out.after (Ref06.drewN_below (Below.refl _ _) _)).1.less⟩⟩
          case measure => simp [intOf]; omega
    · have hge : ¬(i < len0) ∨ i < len0 ∧ ¬(i < 200) := by omega
      clear hlt
      rcases hge with h1 | ⟨h1, h2⟩
      all_goals
        go_wp2_with (fail)
        refine (At.awake_calls _).mono ?_
        rintro e wS ⟨rfl, hh⟩
        have HF := Aside0.mk (HM.out.below.trans (hh.mono HM.out.below.size))
        clear hh
        go_wp2_with (fail)
        go_ret
        exact ⟨rfl, HF.out⟩
end Go.Proofs.Ytojehachhfcfaaa.LawPlays
