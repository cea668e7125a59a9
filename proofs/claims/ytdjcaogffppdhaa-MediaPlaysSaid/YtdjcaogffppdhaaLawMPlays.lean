/- The law MediaPlays, walked. -/
import Derived.Test.YtdjcaogffppdhaaBothM
import Derived.Test.YtdjcaogffppdhaaArgsM
import Derived.Test.YtdjcaogffppdhaaMedAw
import Derived.Lib.ItoaWalk
import Derived.Deep.RegionHeld3
import Derived.Deep.RegionWith
import Derived.Deep.DrawnRows
import Derived.Deep.QuietTactic
import Derived.BigQuiet
import Derived.Deep.DeepCutAuto
import Derived.Deep.CutBlock
set_option linter.unusedVariables false
set_option linter.unusedSimpArgs false
namespace Go.Proofs.Ytdjcaogffppdhaa.LawMPlays
open Go.RowKit Go.Proofs.Ytdjcaogffppdhaa.SumPure Go.Proofs.Ytdjcaogffppdhaa.RefP Go.Proofs.Ytdjcaogffppdhaa.AtX Go.Proofs.Ytdjcaogffppdhaa.Both Go.Proofs.Ytdjcaogffppdhaa.Full Go.Proofs.Ytdjcaogffppdhaa.Lst
open Go.Proofs.YtdjcaogffppdhaaW.PrintWords Go.Proofs.YtdjcaogffppdhaaW.PrintLast Go.Proofs.YtdjcaogffppdhaaW.PrintMore
open Go.Proofs.Ytdjcaogffppdhaa.Med (IsMed Med Ranged IsSize IsFiles Filed)
open Go.Proofs.Ytdjcaogffppdhaa.Ref (R IsRef)
open Go.Proofs.Ytdjcaogffppdhaa.Args
attribute [local go_sem] max2_int min2_int max_two min_two
attribute [local go_sem ↓] Go.wp_at_zero Go.wp_at_succ
/-- A call's six parts stand in block g. -/
def Six (g : Nat) (z0 z1 z2 z3 : Int) (o : Bool) (z5 : Int) (w : World) : Prop := w.heap[g]? = some (.cells #[.int .i64 z0, .int .i64 z1, .int .i64 z2, .int .i64 z3, .bool o, .int .i64 z5] 36 (0, 0))
section
variable {g : Nat} {z0 z1 z2 z3 z5 : Int} {o : Bool} {w w' : World}
theorem Six.c0 (h : Six g z0 z1 z2 z3 o z5 w) : w.cell? ⟨g, 0, none⟩ = some (.int .i64 z0) := by unfold Six at h; simp [World.cell?, h]
theorem Six.c1 (h : Six g z0 z1 z2 z3 o z5 w) : w.cell? ⟨g, 1, none⟩ = some (.int .i64 z1) := by unfold Six at h; simp [World.cell?, h]
theorem Six.c2 (h : Six g z0 z1 z2 z3 o z5 w) : w.cell? ⟨g, 2, none⟩ = some (.int .i64 z2) := by unfold Six at h; simp [World.cell?, h]
theorem Six.c3 (h : Six g z0 z1 z2 z3 o z5 w) : w.cell? ⟨g, 3, none⟩ = some (.int .i64 z3) := by unfold Six at h; simp [World.cell?, h]
theorem Six.c4 (h : Six g z0 z1 z2 z3 o z5 w) : w.cell? ⟨g, 4, none⟩ = some (.bool o) := by unfold Six at h; simp [World.cell?, h]
theorem Six.c5 (h : Six g z0 z1 z2 z3 o z5 w) : w.cell? ⟨g, 5, none⟩ = some (.int .i64 z5) := by unfold Six at h; simp [World.cell?, h]
theorem Six.same (h : Six g z0 z1 z2 z3 o z5 w) (k : Same (fun j => j = g) w w') : Six g z0 z1 z2 z3 o z5 w' := (k g rfl).trans h
theorem Six.below (h : Six g z0 z1 z2 z3 o z5 w) (k : Below w.heap.size w w') : Six g z0 z1 z2 z3 o z5 w' := (k.block g (Array.getElem?_eq_some_iff.1 h).1).trans h
end
/-- What stands behind the switch. -/
def Tail (w : World) (b br n XB : Nat) (z0 z1 z2 z3 : Int) (o : Bool) (z5 : Int) (wx : World) : Prop := ∃ M r, Both w (fun j => j = XB) b M br r n wx ∧ Goods M r ∧ Six XB z0 z1 z2 z3 o z5 wx
set_option maxHeartbeats 16000000 in
set_option maxRecDepth 100000 in
theorem walk (a0 : Option Addr) (len0 cap0 : Nat) (w : World) (h0 : HasOps w a0 len0) :
    Calls Try.prog 4 #[.slice a0 len0 cap0] w fun e w' => e = .returned (.bool true) ∧ Below w.heap.size w w' := by
  have l0le := h0.le
  have H0 := Aside0.mk h0
  clear h0
  go_enter Try.func4, Try.ntmps4
  go_wp2_with (fail)
  refine (AtX.new w).mono ?_
  rintro e w1 ⟨b, rfl, hh⟩
  go_wp2_with (fail)
  refine (Both.new hh).mono ?_
  rintro e w2 ⟨br, rfl, hh2⟩
  have HB := Aside0.mk hh2
  clear hh hh2
  go_wp2_with (fail)
  go_loopw [5] (fun v5 wr => ∃ (i : Nat) (M : Med) (r : R), i ≤ 500 ∧ i ≤ len0 ∧ v5 = .int .i64 i ∧ Aside0 (Both w (fun _ => False) b M br r (10 * i) wr) ∧ Aside0 (Goods M r)) (fun v5 _ => 500 - (intOf v5).toNat)
  case atStart => exact ⟨0, Med.new, R.new, by omega, by omega, rfl, ⟨HB.out⟩, ⟨Goods.new⟩⟩
  case round =>
    obtain ⟨i, M, r, hi, hi0, rfl, HM, HG⟩ := hrel
    clear HB
    by_cases hlt : i < len0 ∧ i < 500
    · obtain ⟨hlt, h500⟩ := hlt
      obtain ⟨x0, rfl, z0, z1, z2, z3, o, z5, hop⟩ := H0.out.at HM.out.below hlt
      obtain ⟨d0, d1, d2, d3, d4, d5, ⟨l0, u0⟩, ⟨l1, u1⟩, ⟨l2, u2⟩, ⟨l3, u3⟩, ⟨l5, u5⟩⟩ := hop
      rw [← add_off x0 (i * 6) 1 (by decide)] at d1
      rw [← add_off x0 (i * 6) 2 (by decide)] at d2
      rw [← add_off x0 (i * 6) 3 (by decide)] at d3
      rw [← add_off x0 (i * 6) 4 (by decide)] at d4
      rw [← add_off x0 (i * 6) 5 (by decide)] at d5
      go_upto_block 2 with (fail)
      go_name_world w3 hw3
      obtain ⟨XB, hXB⟩ : ∃ XB, XB = wr.heap.size := ⟨_, rfl⟩
      rw [← hXB]
      have HS : Aside0 (Six XB z0 z1 z2 z3 o z5 w3) := ⟨by rw [← hw3, hXB]; exact heap_alloc_new wr _⟩
      have HB3 : Aside0 (Both w (fun j => j = XB) b M br r (10 * i) w3) := ⟨by
        rw [← hw3]
        exact HM.out.more ((Below.refl _ wr).alloc (Nat.le_refl _) _) _ fun j hj => ⟨by omega, by simp; omega⟩⟩
      clear hw3 hXB d0 d1 d2 d3 d4 d5 HM
      go_cut [] (fun wx => Tail w b br (10 * (i + 1)) XB z0 z1 z2 z3 o z5 wx)
      case first =>
        have HH : Aside0 (Half w (fun j => j = XB) b M br r (10 * i) w3 ∧ Six XB z0 z1 z2 z3 o z5 w3) := ⟨HB3.out.half, HS.out⟩
        have e0 := HH.out.2.c0
        by_cases q0 : z0 = 0
        · have q0b : (z0 == 0) = true := by rw [q0]; rfl
          clear q0
          have e1 := HH.out.2.c1
          have e2 := HH.out.2.c2
          have e3 := HH.out.2.c3
          have e4 := HH.out.2.c4
          obtain ⟨S, hS⟩ : ∃ S, S = fullS z3 o := ⟨_, rfl⟩
          have hS64 : S.size ≤ 64 := by rw [hS]; exact fullS_le z3 o
          have hrw := HB3.out.rel.write z1 z2 S
          have hgw := HG.out.write HB3.out.rel z1 z2 S
          obtain ⟨M1, ec, hsv⟩ : ∃ M1 ec, M.write z1 z2 S = (M1, ec) := ⟨_, _, rfl⟩
          obtain ⟨r1, er, hrv⟩ : ∃ r1 er, r.write z1 z2 S = (r1, er) := ⟨_, _, rfl⟩
          rw [hsv, hrv] at hrw hgw
          obtain ⟨hce, hrel1⟩ := hrw
          have hce' : er = ec := hce.symm
          subst hce'
          have HRL := Aside0.mk (And.intro hrel1 hgw)
          have cfill : ∀ W, Calls Try.prog 13 #[.int .i64 z3, .bool o] W fun e w' => e = .returned (.string S) ∧ Below W.heap.size W w' := fun W => by rw [hS]; exact full_any z3 o W
          have cw : ∀ W, Half w (fun j => j = XB) b M br r (10 * i) W → Calls Try.prog 12 #[.pointer (some ⟨b, 0, none⟩), .int .i64 z1, .int .i64 z2, .string S] W fun e w' => e = .returned (.int .i64 er) ∧ Half w (fun j => j = XB) b M1 br r (10 * i + 3) w' ∧ Same (fun j => j = XB) W w' := fun W h => by
            have := h.write z1 z2 S (by omega) (by omega)
            rw [hsv] at this
            exact this
          have crw : ∀ W, Half w (fun j => j = XB) b M1 br r (10 * i + 3) W → Calls Try.prog 18 #[.pointer (some ⟨br, 0, none⟩), .int .i64 z1, .int .i64 z2, .string S] W fun e w' => e = .returned (.int .i64 er) ∧ Half w (fun j => j = XB) b M1 br r1 (10 * i + 3 + 2) w' ∧ Same (fun j => j = XB) W w' := fun W h => by
            have := h.rwrite z1 z2 S (by omega) (by omega)
            rw [hrv] at this
            exact this
          have HCC := Aside0.mk (And.intro cfill (And.intro cw crw))
          clear cfill cw crw hrel1 hgw hce hsv hrv hS hS64
          have HH1 : Aside0 (Half w (fun j => j = XB) b M br r (10 * i) (w3.drewN 1) ∧ Six XB z0 z1 z2 z3 o z5 (w3.drewN 1)) := ⟨HH.out.1.drawn 1, HH.out.2⟩
          go_upto_region 11 with (fail)
          go_region_held3 (fun w' => w'.cell? ⟨XB, 1, none⟩ = some (.int .i64 z1) ∧ w'.cell? ⟨XB, 2, none⟩ = some (.int .i64 z2) ∧ w'.cell? ⟨XB, 3, none⟩ = some (.int .i64 z3) ∧ w'.cell? ⟨XB, 4, none⟩ = some (.bool o)) (first | (go_split_ands; assumption) | (refine ⟨?_, ?_, ?_, ?_⟩ <;> assumption) | go_keep) (first
            | (go_at_call 13; have _t := HBs; refine (HCC.out.1 _).mono ?_; rintro e wC ⟨rfl, hk⟩; have HC : Aside0 (Half w (fun j => j = XB) b M1 br r (10 * i + 3) wC ∧ Six XB z0 z1 z2 z3 o z5 wC) := ⟨(HBs.out.1.after hk).1, Six.below HBs.out.2 hk⟩; clear hk; have g1 := HC.out.2.c1; have g2 := HC.out.2.c2; have g3 := HC.out.2.c3; have g4 := HC.out.2.c4)
            | (go_at_call 13; refine (HCC.out.1 _).mono ?_; rintro e wA ⟨rfl, hk⟩; have HA : Aside0 (Half w (fun j => j = XB) b M br r (10 * i) wA ∧ Six XB z0 z1 z2 z3 o z5 wA) := ⟨(HH1.out.1.after hk).1, Six.below (w := w3.drewN 1) HH1.out.2 hk⟩; clear hk; have f1 := HA.out.2.c1; have f2 := HA.out.2.c2; have f3 := HA.out.2.c3; have f4 := HA.out.2.c4)
            | (go_at_call 12; refine (HCC.out.2.1 _ HA.out.1).mono ?_; rintro e wB ⟨rfl, hk, hs⟩; have HBs : Aside0 (Half w (fun j => j = XB) b M1 br r (10 * i + 3) wB ∧ Six XB z0 z1 z2 z3 o z5 wB) := ⟨hk, Six.same HA.out.2 hs⟩; clear hk hs; have k1 := HBs.out.2.c1; have k2 := HBs.out.2.c2; have k3 := HBs.out.2.c3; have k4 := HBs.out.2.c4)
            | (go_at_call 18; refine (HCC.out.2.2 _ HC.out.1).mono ?_; rintro e wD ⟨rfl, hk, hs⟩; have HD : Aside0 (Half w (fun j => j = XB) b M1 br r1 (10 * i + 3 + 2) wD ∧ Six XB z0 z1 z2 z3 o z5 wD) := ⟨hk, Six.same HC.out.2 hs⟩; clear hk hs; have m1 := HD.out.2.c1; have m2 := HD.out.2.c2; have m3 := HD.out.2.c3; have m4 := HD.out.2.c4))
          all_goals
            go_wp2
            go_meet
            exact ⟨M1, r1, (HD.out.1.both HRL.out.1).mono (by omega), HRL.out.2, HD.out.2⟩
        · have q0b : (z0 == 0) = false := by rw [beq_eq_false_iff_ne]; exact q0
          clear q0
          by_cases q1 : z0 = 1
          · have q1b : (z0 == 1) = true := by rw [q1]; rfl
            clear q1
            have e1 := HH.out.2.c1
            have hrw := HB3.out.rel.remove HG.out.has z1
            have hgw := HG.out.remove HB3.out.rel z1
            obtain ⟨M1, ec, hsv⟩ : ∃ M1 ec, M.remove z1 = (M1, ec) := ⟨_, _, rfl⟩
            obtain ⟨r1, er, hrv⟩ : ∃ r1 er, r.remove z1 = (r1, er) := ⟨_, _, rfl⟩
            rw [hsv, hrv] at hrw hgw
            obtain ⟨hce, hrel1, _⟩ := hrw
            have hce' : er = ec := hce.symm
            subst hce'
            have HRL := Aside0.mk (And.intro hrel1 hgw)
            have cw : ∀ W, Half w (fun j => j = XB) b M br r (10 * i) W → Calls Try.prog 19 #[.pointer (some ⟨b, 0, none⟩), .int .i64 z1] W fun e w' => e = .returned (.int .i64 er) ∧ Half w (fun j => j = XB) b M1 br r (10 * i + 3) w' ∧ Same (fun j => j = XB) W w' := fun W h => by
              have := h.remove z1 (by omega)
              rw [hsv] at this
              exact this
            have crw : ∀ W, Half w (fun j => j = XB) b M1 br r (10 * i + 3) W → Calls Try.prog 20 #[.pointer (some ⟨br, 0, none⟩), .int .i64 z1] W fun e w' => e = .returned (.int .i64 er) ∧ Half w (fun j => j = XB) b M1 br r1 (10 * i + 3 + 2) w' ∧ Same (fun j => j = XB) W w' := fun W h => by
              have := h.rremove z1 (by omega)
              rw [hrv] at this
              exact this
            have HCC := Aside0.mk (And.intro cw crw)
            clear cw crw hrel1 hgw hce hsv hrv
            have HH1 : Aside0 (Half w (fun j => j = XB) b M br r (10 * i) (w3.drewN 1) ∧ Six XB z0 z1 z2 z3 o z5 (w3.drewN 1)) := ⟨HH.out.1.drawn 1, HH.out.2⟩
            go_upto_region 14 with (fail)
            go_region_held3 (fun w' => w'.cell? ⟨XB, 1, none⟩ = some (.int .i64 z1)) (first | assumption | go_keep) (first
              | (go_at_call 19; refine (HCC.out.1 _ HH1.out.1).mono ?_; rintro e wB ⟨rfl, hk, hs⟩; have HBs : Aside0 (Half w (fun j => j = XB) b M1 br r (10 * i + 3) wB ∧ Six XB z0 z1 z2 z3 o z5 wB) := ⟨hk, Six.same (w := w3.drewN 1) HH1.out.2 hs⟩; clear hk hs; have k1 := HBs.out.2.c1)
              | (go_at_call 20; refine (HCC.out.2 _ HBs.out.1).mono ?_; rintro e wD ⟨rfl, hk, hs⟩; have HD : Aside0 (Half w (fun j => j = XB) b M1 br r1 (10 * i + 3 + 2) wD ∧ Six XB z0 z1 z2 z3 o z5 wD) := ⟨hk, Six.same HBs.out.2 hs⟩; clear hk hs; have m1 := HD.out.2.c1))
            all_goals
              go_wp2
              go_meet
              exact ⟨M1, r1, (HD.out.1.both HRL.out.1).mono (by omega), HRL.out.2, HD.out.2⟩
          · have q1b : (z0 == 1) = false := by rw [beq_eq_false_iff_ne]; exact q1
            clear q1
            by_cases q2 : z0 = 2
            · have q2b : (z0 == 2) = true := by rw [q2]; rfl
              clear q2
              have e1 := HH.out.2.c1
              have e2 := HH.out.2.c2
              obtain ⟨s, es, hrd⟩ : ∃ s es, M.read z1 z2 = (s, es) := ⟨_, _, rfl⟩
              have hrr := HB3.out.rel.read z1 z2
              rw [hrd] at hrr
              have cr1 := HH.out.1.read z1 z2
              rw [hrd] at cr1
              have cr2 : ∀ m, Calls Try.prog 22 #[.pointer (some ⟨br, 0, none⟩), .int .i64 z1, .int .i64 z2] (w3.drewN m) fun e w' => e = .returned (.tuple #[.string s, .int .i64 es]) ∧ w' = w3.drewN m := fun m => by
                have := (HH.out.1.drawn m).rread z1 z2 (by omega)
                rw [hrr] at this
                exact this
              have HCR := Aside0.mk (And.intro cr1 cr2)
              clear cr1 cr2 hrr hrd
              go_wp2_with (first
                | (go_at_call 21; refine HCR.out.1.mono ?_; rintro e wA ⟨rfl, m, rfl⟩)
                | (go_at_call 22; refine (HCR.out.2 _).mono ?_; rintro e wB ⟨rfl, rfl⟩))
              go_meet
              exact ⟨M, r, ((HH.out.1.drawn _).both HB3.out.rel).mono (by omega), HG.out, HH.out.2⟩
            · have q2b : (z0 == 2) = false := by rw [beq_eq_false_iff_ne]; exact q2
              clear q2
              by_cases q3 : z0 = 3
              · have q3b : (z0 == 3) = true := by rw [q3]; rfl
                clear q3
                have e5 := HH.out.2.c5
                go_wp2_with (fail)
                refine (HH.out.1.arm z5 (by omega)).mono ?_
                rintro e wA ⟨rfl, hk, hs⟩
                have HA : Aside0 (Half w (fun j => j = XB) b (M.arm z5) br r (10 * i) wA ∧ Six XB z0 z1 z2 z3 o z5 wA) := ⟨hk, Six.same HH.out.2 hs⟩
                clear hk hs
                have e5A := HA.out.2.c5
                go_wp2_with (fail)
                refine (HA.out.1.rarm z5 (by omega)).mono ?_
                rintro e wB ⟨rfl, hk, hs⟩
                have HC : Aside0 (Half w (fun j => j = XB) b (M.arm z5) br (r.arm z5) (10 * i) wB ∧ Six XB z0 z1 z2 z3 o z5 wB) := ⟨hk, Six.same HA.out.2 hs⟩
                clear hk hs
                go_wp2
                go_meet
                exact ⟨M.arm z5, r.arm z5, (HC.out.1.both (HB3.out.rel.arm z5)).mono (by omega), HG.out.arm z5, HC.out.2⟩
              · have q3b : (z0 == 3) = false := by rw [beq_eq_false_iff_ne]; exact q3
                clear q3
                by_cases q4 : z0 = 4
                · have q4b : (z0 == 4) = true := by rw [q4]; rfl
                  clear q4
                  go_wp2_with (fail)
                  refine (HH.out.1.on).mono ?_
                  rintro e wA ⟨rfl, hk, hs⟩
                  have HA : Aside0 (Half w (fun j => j = XB) b M.on br r (10 * i) wA ∧ Six XB z0 z1 z2 z3 o z5 wA) := ⟨hk, Six.same HH.out.2 hs⟩
                  clear hk hs
                  go_wp2_with (fail)
                  refine (HA.out.1.ron).mono ?_
                  rintro e wB ⟨rfl, hk, hs⟩
                  have HC : Aside0 (Half w (fun j => j = XB) b M.on br r.on (10 * i) wB ∧ Six XB z0 z1 z2 z3 o z5 wB) := ⟨hk, Six.same HA.out.2 hs⟩
                  clear hk hs
                  go_wp2
                  go_meet
                  exact ⟨M.on, r.on, (HC.out.1.both HB3.out.rel.on).mono (by omega), HG.out.on, HC.out.2⟩
                · have q4b : (z0 == 4) = false := by rw [beq_eq_false_iff_ne]; exact q4
                  clear q4
                  go_wp2
                  go_meet
                  exact ⟨M, r, HB3.out.mono (by omega), HG.out, HS.out⟩
      case rest =>
        obtain ⟨M', r', hB, hG, hS⟩ := hcut
        have HB := Aside0.mk hB
        have HG' := Aside0.mk hG
        have HS4 := Aside0.mk hS
        clear hB hG hS HS HB3 HG
        have e1 := HS4.out.c1
        obtain ⟨fl, hfl⟩ : ∃ fl, fl = Ref.filesL r'.L := ⟨_, rfl⟩
        obtain ⟨Q, hQ⟩ : ∃ Q, Q = Ref.rsz z1 r'.L := ⟨_, rfl⟩
        have hfll : fl.length ≤ 1000000000 := by
          obtain ⟨X, _, h2, _⟩ := HB.out.ex
          obtain ⟨v, h3, _⟩ := h2
          have := h3.len
          have := Ref.files_len r'.L
          rw [hfl]; omega
        have cf : ∀ W, Half w (fun j => j = XB) b M' br r' (10 * (i + 1)) W → Calls Try.prog 27 #[.pointer (some ⟨b, 0, none⟩)] W fun e w' => ∃ v, e = .returned v ∧ Lst w' v fl ∧ Half w (fun j => j = XB ∨ v.ownBlock = some j) b M' br r' (10 * (i + 1)) w' ∧ Same (fun j => j = XB) W w' := fun W h =>
          (h.files HG'.out.fd (by omega)).mono fun e w' ⟨v, l, he, hl, hv, hk, hs⟩ => ⟨v, he, by rw [hfl, ← hl.same HG'.out.has.files]; exact hv, hk, hs⟩
        have crf : ∀ (v : Value) W, Half w (fun j => j = XB ∨ v.ownBlock = some j) b M' br r' (10 * (i + 1)) W → Calls Try.prog 28 #[.pointer (some ⟨br, 0, none⟩)] W fun e w' => ∃ v', e = .returned v' ∧ Lst w' v' fl ∧ Half w (fun j => j = XB ∨ v.ownBlock = some j) b M' br r' (10 * (i + 1)) w' ∧ Below W.heap.size W w' := fun (v : Value) W h => by
          rw [hfl]; exact h.rfiles (by omega)
        have csz : ∀ W, Half w (fun j => j = XB) b M' br r' (10 * (i + 1)) W → Calls Try.prog 15 #[.pointer (some ⟨b, 0, none⟩), .int .i64 z1] W fun e w' => e = .returned (.int .i64 Q) ∧ Half w (fun j => j = XB) b M' br r' (10 * (i + 1)) w' ∧ Same (fun j => j = XB) W w' := fun W h =>
          (h.size HG'.out.rg z1 (Med.wf_small l1 u1)).mono fun e w' ⟨q, he, hq, hk, hs⟩ => ⟨by rw [he, hQ, MedP.IsSize.same hq (HB.out.rel.size HG'.out.rg z1)], hk, hs⟩
        have crsz : ∀ W, Half w (fun j => j = XB) b M' br r' (10 * (i + 1)) W → Calls Try.prog 29 #[.pointer (some ⟨br, 0, none⟩), .int .i64 z1] W fun e w' => e = .returned (.int .i64 Q) ∧ w' = W := fun W h => by
          rw [hQ]; exact h.rsize z1 (HG'.out.items HB.out.rel) (by omega)
        have cwr : ∀ W, Half w (fun j => j = XB) b M' br r' (10 * (i + 1)) W → Calls Try.prog 14 #[.pointer (some ⟨b, 0, none⟩)] W fun e w' => e = .returned (.int .i64 M'.writes) ∧ w' = W := fun W h => h.writes
        have crwr : ∀ W, Half w (fun j => j = XB) b M' br r' (10 * (i + 1)) W → Calls Try.prog 30 #[.pointer (some ⟨br, 0, none⟩)] W fun e w' => e = .returned (.int .i64 M'.writes) ∧ w' = W := fun W h => by
          have := h.rwrites
          rw [← HB.out.rel.wr] at this
          exact this
        have HCC := Aside0.mk (And.intro cf (And.intro crf (And.intro csz (And.intro crsz (And.intro cwr crwr)))))
        clear cf crf csz crsz cwr crwr hfl hQ
        have HFL := Aside0.mk hfll
        clear hfll
        have HH1 : Aside0 (∀ k, Half w (fun j => j = XB) b M' br r' (10 * (i + 1)) (wc.drewN k) ∧ Six XB z0 z1 z2 z3 o z5 (wc.drewN k)) := ⟨fun k => ⟨HB.out.half.drawn k, HS4.out⟩⟩
        go_upto_region 27 with (fail)
        go_region_held3 (fun w' => w'.cell? ⟨XB, 1, none⟩ = some (.int .i64 z1)) (first | assumption | go_keep) (first
          | (go_at_call 27; refine (HCC.out.1 _ (HH1.out 1).1).mono ?_; rintro e wA ⟨v, rfl, hl, hk, hs⟩; have HA : Aside0 (Half w (fun j => j = XB ∨ v.ownBlock = some j) b M' br r' (10 * (i + 1)) wA ∧ Six XB z0 z1 z2 z3 o z5 wA ∧ Lst wA v fl) := ⟨hk, Six.same (w := wc.drewN 1) (HH1.out 1).2 hs, hl⟩; clear hk hs hl; have k1 := HA.out.2.1.c1)
          | (go_at_call 28; refine (HCC.out.2.1 _ _ HA.out.1).mono ?_; rintro e wB ⟨v', rfl, hl, hk, hs⟩; have HBb : Aside0 (Half w (fun j => j = XB) b M' br r' (10 * (i + 1)) wB ∧ Six XB z0 z1 z2 z3 o z5 wB ∧ Lst wB v fl ∧ Lst wB v' fl) := ⟨hk.narrow _ (fun j h => .inl h), Six.below HA.out.2.1 hs, HA.out.2.2.below hs, hl⟩; clear hk hs hl; have m1 := HBb.out.2.1.c1)
          | (go_at_call 26; refine (ints_calls HBb.out.2.2.1 HBb.out.2.2.2 HFL.out).mono ?_; rintro e wC ⟨rfl, mC, hC⟩; have HCc : Aside0 (Half w (fun j => j = XB) b M' br r' (10 * (i + 1)) wC ∧ Six XB z0 z1 z2 z3 o z5 wC) := ⟨by rw [hC]; exact HBb.out.1.drawn mC, by rw [hC]; exact HBb.out.2.1⟩; clear hC; have n1 := HCc.out.2.c1)
          | (go_at_call 15; refine (HCC.out.2.2.1 _ HCc.out.1).mono ?_; rintro e wD ⟨rfl, hk, hs⟩; have HDd : Aside0 (Half w (fun j => j = XB) b M' br r' (10 * (i + 1)) wD ∧ Six XB z0 z1 z2 z3 o z5 wD) := ⟨hk, Six.same HCc.out.2 hs⟩; clear hk hs; have p1 := HDd.out.2.c1)
          | (go_at_call 29; refine (HCC.out.2.2.2.1 _ HDd.out.1).mono ?_; rintro e wE ⟨rfl, rfl⟩)
          | (go_at_call 14; refine (HCC.out.2.2.2.2.1 _ HDd.out.1).mono ?_; rintro e wE ⟨rfl, rfl⟩)
          | (go_at_call 30; refine (HCC.out.2.2.2.2.2 _ HDd.out.1).mono ?_; rintro e wE ⟨rfl, rfl⟩))
        all_goals
          go_wp2
          go_roundw
          case rel => exact ⟨i + 1, M', r', by omega, by omega, by go_num, ⟨(HDd.out.1.both HB.out.rel).less⟩, HG'⟩
          case measure => simp [intOf]; omega
    · have hge : ¬(i < len0) ∨ i < len0 ∧ ¬(i < 500) := by omega
      clear hlt
      rcases hge with h1 | ⟨h1, h2⟩
      all_goals
        go_wp2_with (fail)
        refine (MedAw.awake_calls _).mono ?_
        rintro e wS ⟨rfl, hh⟩
        have HF := Aside0.mk (HM.out.below.trans (hh.mono HM.out.below.size))
        clear hh
        go_wp2_with (fail)
        go_ret
        exact ⟨rfl, HF.out⟩
end Go.Proofs.Ytdjcaogffppdhaa.LawMPlays
