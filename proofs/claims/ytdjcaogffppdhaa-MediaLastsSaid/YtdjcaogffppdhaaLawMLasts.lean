/- The law MediaLasts, walked. -/
import Derived.Test.YtdjcaogffppdhaaPMap
import Derived.Test.YtdjcaogffppdhaaMedL
import Derived.Test.YtdjcaogffppdhaaArgsM
import Derived.Test.YtdjcaogffppdhaaMedAw
import Derived.Lib.ItoaWalk
import Derived.Deep.RegionHeld3
import Derived.Deep.RegionWith
import Derived.Deep.DrawnRows
import Derived.Deep.QuietTactic
import Derived.BigQuiet
import Derived.Deep.DeepCutAuto
import Derived.Deep.CutBlock
set_option linter.unusedVariables false
set_option linter.unusedSimpArgs false
namespace Go.Proofs.Ytdjcaogffppdhaa.LawMLasts
open Go.RowKit Go.Proofs.Ytdjcaogffppdhaa.SumPure Go.Proofs.Ytdjcaogffppdhaa.AtX Go.Proofs.Ytdjcaogffppdhaa.Full Go.Proofs.Ytdjcaogffppdhaa.PMap Go.Proofs.Ytdjcaogffppdhaa.MedL
open Go.Proofs.YtdjcaogffppdhaaW.PrintWords Go.Proofs.YtdjcaogffppdhaaW.PrintLast Go.Proofs.YtdjcaogffppdhaaW.PrintMore
open Go.Proofs.Ytdjcaogffppdhaa.Med (IsMed Med Ranged IsSize IsFiles Filed)
open Go.Proofs.Ytdjcaogffppdhaa.Args
attribute [local go_sem] max2_int min2_int max_two min_two
attribute [local go_sem ↓] Go.wp_at_zero Go.wp_at_succ
/-- A call's six parts stand in block g. -/
def Six (g : Nat) (z0 z1 z2 z3 : Int) (o : Bool) (z5 : Int) (w : World) : Prop := w.heap[g]? = some (.cells #[.int .i64 z0, .int .i64 z1, .int .i64 z2, .int .i64 z3, .bool o, .int .i64 z5] 36 (0, 0))
section
variable {g : Nat} {z0 z1 z2 z3 z5 : Int} {o : Bool} {w w' : World}
theorem Six.c0 (h : Six g z0 z1 z2 z3 o z5 w) : w.cell? ⟨g, 0, none⟩ = some (.int .i64 z0) := by unfold Six at h; simp [World.cell?, h]
theorem Six.c1 (h : Six g z0 z1 z2 z3 o z5 w) : w.cell? ⟨g, 1, none⟩ = some (.int .i64 z1) := by unfold Six at h; simp [World.cell?, h]
theorem Six.c2 (h : Six g z0 z1 z2 z3 o z5 w) : w.cell? ⟨g, 2, none⟩ = some (.int .i64 z2) := by unfold Six at h; simp [World.cell?, h]
theorem Six.c3 (h : Six g z0 z1 z2 z3 o z5 w) : w.cell? ⟨g, 3, none⟩ = some (.int .i64 z3) := by unfold Six at h; simp [World.cell?, h]
theorem Six.c5 (h : Six g z0 z1 z2 z3 o z5 w) : w.cell? ⟨g, 5, none⟩ = some (.int .i64 z5) := by unfold Six at h; simp [World.cell?, h]
theorem Six.below (h : Six g z0 z1 z2 z3 o z5 w) (k : Below w.heap.size w w') : Six g z0 z1 z2 z3 o z5 w' := (k.block g (Array.getElem?_eq_some_iff.1 h).1).trans h
end
/-- The place of the call with a number. -/
def atv (w : World) (x : Addr) (k : Nat) : Int := match w.cell? (x.add (k * 6 + 2)) with | some (.int _ z) => z | _ => 0
def atO (w : World) (a : Option Addr) (k : Nat) : Int := match a with | some x => atv w x k | none => 0
theorem atv_is {w : World} {x : Addr} {i : Nat} {z0 z1 z2 z3 : Int} {o : Bool} {z5 : Int} (h : OpAt w x i z0 z1 z2 z3 o z5) : atv w x i = z2 := by unfold atv; rw [h.c2]
theorem at2 {w : World} {a : Option Addr} {len : Nat} (h : HasOps w a len) {w' : World} (q : Below w.heap.size w w') {i : Nat} (hi : i < len) : ∃ x : Addr, a = some x ∧ ∃ z0 z1 z2 z3 o z5, OpAt w' x i z0 z1 z2 z3 o z5 ∧ atO w a i = z2 := by
  obtain ⟨x, hx, hb, hc⟩ := h.cell (by omega)
  obtain ⟨z0, z1, z2, z3, o, z5, k⟩ := hc i hi
  exact ⟨x, hx, z0, z1, z2, z3, o, z5, k.below q hb, by rw [hx]; exact atv_is k⟩
/-- The media, the map of what was wanted, and a call's copy, side by side. -/
structure All (w : World) (bm b : Nat) (M : Med) (n : Nat) (W : Int → Int → Option ByteArray) (m : Nat) (X : Nat → Prop) (wx : World) : Prop where
  at' : AtX w (fun j => j = bm ∨ X j) b M n wx
  map : PMap wx bm m W
  new : w.heap.size ≤ bm
section
variable {w wx : World} {bm b n m : Nat} {M : Med} {W : Int → Int → Option ByteArray} {X : Nat → Prop}
theorem All.below (h : All w bm b M n W m X wx) : Below w.heap.size w wx := h.at'.below
theorem All.after (h : All w bm b M n W m X wx) {w' : World} (k : Below wx.heap.size wx w') : All w bm b M n W m X w' := ⟨h.at'.after k, h.map.same (k.block bm h.map.lt), h.new⟩
theorem All.drawn (h : All w bm b M n W m X wx) (q : Nat) : All w bm b M n W m X (wx.drewN q) := h.after ⟨rfl, rfl, rfl, Nat.le_refl _, fun _ _ => rfl⟩
theorem All.drew (h : All w bm b M n W m X wx) : All w bm b M n W m X wx.drew := h.after (w' := wx.drew) ⟨rfl, rfl, rfl, Nat.le_refl _, fun _ _ => rfl⟩
theorem All.turn (h : All w bm b M n W m X wx) {M' : Med} {n' : Nat} {w' : World} (k : AtX w (fun j => j = bm ∨ X j) b M' n' w') (hs : Same (fun j => j = bm ∨ X j) wx w') : All w bm b M' n' W m X w' := ⟨k, h.map.same (hs bm (.inl rfl)), h.new⟩
theorem All.mono (h : All w bm b M n W m X wx) {n' m' : Nat} (k : n ≤ n') (k' : m ≤ m') : All w bm b M n' W m' X wx := ⟨h.at'.mono k, h.map.mono k', h.new⟩
theorem All.more (h : All w bm b M n W m (fun _ => False) wx) {w' : World} (k : Below wx.heap.size wx w') (Y : Nat → Prop) (hY : ∀ i, Y i → wx.heap.size ≤ i ∧ i < w'.heap.size) : All w bm b M n W m Y w' :=
  ⟨h.at'.more k _ fun i hi => by
    rcases hi with rfl | hi
    · exact ⟨.inl (.inl rfl), Nat.lt_of_lt_of_le h.map.lt k.size⟩
    · exact ⟨.inr (hY i hi).1, (hY i hi).2⟩, h.map.same (k.block bm h.map.lt), h.new⟩
theorem All.less (h : All w bm b M n W m X wx) : All w bm b M n W m (fun _ => False) wx :=
  ⟨h.at'.more (Below.refl _ _) _ fun i hi => by
    rcases hi with rfl | hi
    · exact ⟨.inl (.inl rfl), h.map.lt⟩
    · exact hi.elim, h.map, h.new⟩
/-- The map alone turns. -/
theorem All.turned (h : All w bm b M n W m X wx) {W' : Int → Int → Option ByteArray} {m' : Nat} {w' : World} (g : wx.grownBy w' (some bm)) (k : PMap w' bm m' W') : All w bm b M n W' m' X w' := by
  refine ⟨h.at'.beside (Med.Frame.of_grown g (.inl rfl)) _ (fun i hi => ⟨.inl hi, Nat.lt_of_lt_of_le (h.at'.lt i hi) g.size⟩) ?_, k, h.new⟩
  exact h.below.grown g h.below.size (fun j hj => by have : bm = j := by simpa using hj
                                                     have := h.new; omega)
end
/-- What stands behind the switch. -/
def Tail (w : World) (bm b n m XB : Nat) (at_ : Nat → Int) (len0 : Nat) (z0 z1 z2 z3 : Int) (o : Bool) (z5 : Int) (wx : World) : Prop := ∃ M W, All w bm b M n W m (fun j => j = XB) wx ∧ Lasts at_ len0 M W
set_option maxHeartbeats 16000000 in
set_option maxRecDepth 100000 in
theorem walk (a0 : Option Addr) (len0 cap0 : Nat) (w : World) (h0 : HasOps w a0 len0) :
    Calls Try.prog 5 #[.slice a0 len0 cap0] w fun e w' => e = .returned (.bool true) ∧ Below w.heap.size w w' := by
  have l0le := h0.le
  obtain ⟨at_, hat⟩ : ∃ at_ : Nat → Int, at_ = atO w a0 := ⟨_, rfl⟩
  have H0 : Aside0 (∀ w', Below w.heap.size w w' → ∀ i, i < len0 → ∃ x : Addr, a0 = some x ∧ ∃ z0 z1 z2 z3 o z5, OpAt w' x i z0 z1 z2 z3 o z5 ∧ at_ i = z2) := ⟨fun w' q i hi => by rw [hat]; exact at2 h0 q hi⟩
  clear h0 hat
  go_enter Try.func5, Try.ntmps5
  go_wp2_with (fail)
  refine (AtX.new w).mono ?_
  rintro e w1 ⟨b, rfl, hh⟩
  have hmk := run_makeMap (P := Try.prog) 44 w1
  have HB := Aside0.mk hh
  clear hh
  go_wp2_with (fail)
  have HA : Aside0 (All w w1.heap.size b Med.new 0 (fun _ _ => none) 0 (fun _ => False) (w1.alloc (.map #[] 0))) := ⟨⟨HB.out.more ((Below.refl _ w1).alloc (Nat.le_refl _) _) _ (fun i hi => by
    rcases hi with rfl | hi
    · exact ⟨.inr (Nat.le_refl _), by simp⟩
    · exact hi.elim), PMap.made w1, HB.out.below.size⟩⟩
  clear HB hmk
  generalize w1.heap.size = bm at *
  generalize w1.alloc (.map #[] 0) = w2 at *
  go_loopw [5] (fun v5 wr => ∃ (i : Nat) (M : Med) (W : Int → Int → Option ByteArray), i ≤ 300 ∧ i ≤ len0 ∧ v5 = .int .i64 i ∧ Aside0 (All w bm b M (10 * i) W i (fun _ => False) wr) ∧ Aside0 (Lasts at_ len0 M W)) (fun v5 _ => 300 - (intOf v5).toNat)
  case atStart => exact ⟨0, Med.new, _, by omega, by omega, rfl, HA, ⟨Lasts.new _ _⟩⟩
  case round =>
    obtain ⟨i, M, W, hi, hi0, rfl, HM, HL⟩ := hrel
    clear HA
    by_cases hlt : i < len0 ∧ i < 300
    · obtain ⟨hlt, h300⟩ := hlt
      obtain ⟨x0, rfl, z0, z1, z2, z3, o, z5, hop, hz2⟩ := H0.out _ HM.out.below i hlt
      obtain ⟨d0, d1, d2, d3, d4, d5, ⟨l0, u0⟩, ⟨l1, u1⟩, ⟨l2, u2⟩, ⟨l3, u3⟩, ⟨l5, u5⟩⟩ := hop
      rw [← add_off x0 (i * 6) 1 (by decide)] at d1
      rw [← add_off x0 (i * 6) 2 (by decide)] at d2
      rw [← add_off x0 (i * 6) 3 (by decide)] at d3
      rw [← add_off x0 (i * 6) 4 (by decide)] at d4
      rw [← add_off x0 (i * 6) 5 (by decide)] at d5
      have HZ2 := Aside0.mk hz2
      clear hz2
      go_upto_block 2 with (fail)
      go_name_world w3 hw3
      obtain ⟨XB, hXB⟩ : ∃ XB, XB = wr.heap.size := ⟨_, rfl⟩
      rw [← hXB]
      have HS : Aside0 (Six XB z0 z1 z2 z3 o z5 w3) := ⟨by rw [← hw3, hXB]; exact heap_alloc_new wr _⟩
      have HB3 : Aside0 (All w bm b M (10 * i) W i (fun j => j = XB) w3) := ⟨by
        rw [← hw3]
        exact HM.out.more ((Below.refl _ wr).alloc (Nat.le_refl _) _) _ fun j hj => ⟨by omega, by simp; omega⟩⟩
      have hbx : bm < XB := by rw [hXB]; exact HM.out.map.lt
      clear hw3 hXB d0 d1 d2 d3 d4 d5 HM
      have e0 := HS.out.c0
      by_cases q0 : z0 = 0
      · have q0b : (z0 == 0) = true := by rw [q0]; rfl
        clear q0
        have e1 := HS.out.c1
        have e2 := HS.out.c2
        have e3 := HS.out.c3
        obtain ⟨S, hS⟩ : ∃ S, S = fullS z3 false := ⟨_, rfl⟩
        have hS64 : S.size = 64 := by rw [hS]; exact fullS_size z3
        have cfill : ∀ W, Calls Try.prog 13 #[.int .i64 z3, .bool false] W fun e w' => e = .returned (.string S) ∧ Below W.heap.size W w' := fun W => by rw [hS]; exact full_any z3 false W
        obtain ⟨M1, ec, hsv⟩ : ∃ M1 ec, M.write z1 z2 S = (M1, ec) := ⟨_, _, rfl⟩
        have cw : ∀ wx, All w bm b M (10 * i) W i (fun j => j = XB) wx → Calls Try.prog 12 #[.pointer (some ⟨b, 0, none⟩), .int .i64 z1, .int .i64 z2, .string S] wx fun e w' => e = .returned (.int .i64 ec) ∧ All w bm b M1 (10 * i + 3) W i (fun j => j = XB) w' ∧ Same (fun j => j = bm ∨ j = XB) wx w' := fun wx h => by
          have := h.at'.write_calls z1 z2 S (by omega) (by omega)
          rw [hsv] at this
          exact this.mono fun e w' ⟨a, c, d⟩ => ⟨a, h.turn c d, d⟩
        have hL0 : ec = 0 → Lasts at_ len0 M1 (fun g j => if g = z1 ∧ j = z2 then some S else W g j) := fun h => by
          have := HL.out.wrote (f := z1) (i := z2) (s := S) (by rw [hsv]; exact h) hlt HZ2.out
          rw [hsv] at this
          exact this
        have hL1 : ec ≠ 0 → Lasts at_ len0 M1 W := fun h => by
          have := HL.out.not_wrote (f := z1) (i := z2) (s := S) (by rw [hsv]; exact h)
          rw [hsv] at this
          exact this
        have HCC := Aside0.mk (And.intro cfill cw)
        have HLL := Aside0.mk (And.intro hL0 hL1)
        have H64 := Aside0.mk hS64
        clear cfill cw hL0 hL1 hsv hS hS64
        have HH1 : Aside0 (∀ q, All w bm b M (10 * i) W i (fun j => j = XB) (w3.drewN q) ∧ Six XB z0 z1 z2 z3 o z5 (w3.drewN q)) := ⟨fun q => ⟨HB3.out.drawn q, HS.out⟩⟩
        go_upto_region 11 with (fail)
        by_cases hec : ec = 0
        · have hecb : (ec == 0) = true := by rw [hec]; rfl
          have HEC := Aside0.mk hec
          clear hec
          go_region_held3 (fun w' => w'.cell? ⟨XB, 1, none⟩ = some (.int .i64 z1) ∧ w'.cell? ⟨XB, 2, none⟩ = some (.int .i64 z2) ∧ w'.cell? ⟨XB, 3, none⟩ = some (.int .i64 z3)) (first | (go_split_ands; assumption) | (refine ⟨?_, ?_, ?_⟩ <;> assumption) | go_keep) (first
            | (go_at_call 13; refine (HCC.out.1 _).mono ?_; rintro e wA ⟨rfl, hk⟩; have HA : Aside0 (All w bm b M (10 * i) W i (fun j => j = XB) wA ∧ Six XB z0 z1 z2 z3 o z5 wA) := ⟨(HH1.out 1).1.after hk, Six.below (w := w3.drewN 1) (HH1.out 1).2 hk⟩; clear hk; have f1 := HA.out.2.c1; have f2 := HA.out.2.c2; have f3 := HA.out.2.c3)
            | (go_at_call 12; refine (HCC.out.2 _ HA.out.1).mono ?_; rintro e wB ⟨rfl, hk, hs⟩; have HBs : Aside0 (All w bm b M1 (10 * i + 3) W i (fun j => j = XB) wB ∧ Six XB z0 z1 z2 z3 o z5 wB) := ⟨hk, (hs XB (.inr rfl)).trans HA.out.2⟩; clear hk hs; have k1 := HBs.out.2.c1; have k2 := HBs.out.2.c2; have k3 := HBs.out.2.c3))
          all_goals
            go_upto_region 12 with (fail)
            have HH2 : Aside0 (∀ q, All w bm b M1 (10 * i + 3) W i (fun j => j = XB) (wB.drewN q) ∧ Six XB z0 z1 z2 z3 o z5 (wB.drewN q)) := ⟨fun q => ⟨HBs.out.1.drawn q, HBs.out.2⟩⟩
            have wf1 := Med.wf_small l1 u1
            have wf2 := Med.wf_small l2 u2
            go_region_held3 (fun w' => w'.cell? ⟨XB, 1, none⟩ = some (.int .i64 z1) ∧ w'.cell? ⟨XB, 2, none⟩ = some (.int .i64 z2) ∧ w'.cell? ⟨XB, 3, none⟩ = some (.int .i64 z3)) (first | (go_split_ands; assumption) | (refine ⟨?_, ?_, ?_⟩ <;> assumption) | go_keep) (first
              | (go_at_call 13; refine (HCC.out.1 _).mono ?_; rintro e wC ⟨rfl, hk⟩; have HC : Aside0 (All w bm b M1 (10 * i + 3) W i (fun j => j = XB) wC ∧ Six XB z0 z1 z2 z3 o z5 wC) := ⟨(HH2.out 1).1.after hk, Six.below (w := wB.drewN 1) (HH2.out 1).2 hk⟩; clear hk; have f1 := HC.out.2.c1; have f2 := HC.out.2.c2; have f3 := HC.out.2.c3; obtain ⟨w5, u5, p5, g5⟩ := HC.out.1.map.update (by unfold maxLen; omega) ⟨wf1, wf2⟩ (s := S) (by have := H64.out; unfold maxLen; omega); have HD := Aside0.mk (HC.out.1.turned g5 p5); have HS5 : Aside0 (Six XB z0 z1 z2 z3 o z5 w5) := ⟨(g5.block XB (HC.out.1.at'.lt XB (.inr rfl)) (fun e => by have h : XB = bm := (by simpa using e); omega)).trans HC.out.2⟩; have n1 := HS5.out.c1; have n2 := HS5.out.c2; have n3 := HS5.out.c3; clear p5 g5))
            all_goals
              go_wp2
              go_roundw
              case rel => exact ⟨i + 1, M1, _, by omega, by omega, by go_num, ⟨(HD.out.mono (by omega) (by omega)).less⟩, ⟨HLL.out.1 HEC.out⟩⟩
              case measure => simp [intOf]; omega
        · have hecb : (ec == 0) = false := by rw [beq_eq_false_iff_ne]; exact hec
          have HEC := Aside0.mk hec
          clear hec
          go_region_held3 (fun w' => w'.cell? ⟨XB, 1, none⟩ = some (.int .i64 z1) ∧ w'.cell? ⟨XB, 2, none⟩ = some (.int .i64 z2) ∧ w'.cell? ⟨XB, 3, none⟩ = some (.int .i64 z3)) (first | (go_split_ands; assumption) | (refine ⟨?_, ?_, ?_⟩ <;> assumption) | go_keep) (first
            | (go_at_call 13; refine (HCC.out.1 _).mono ?_; rintro e wA ⟨rfl, hk⟩; have HA : Aside0 (All w bm b M (10 * i) W i (fun j => j = XB) wA ∧ Six XB z0 z1 z2 z3 o z5 wA) := ⟨(HH1.out 1).1.after hk, Six.below (w := w3.drewN 1) (HH1.out 1).2 hk⟩; clear hk; have f1 := HA.out.2.c1; have f2 := HA.out.2.c2; have f3 := HA.out.2.c3)
            | (go_at_call 12; refine (HCC.out.2 _ HA.out.1).mono ?_; rintro e wB ⟨rfl, hk, hs⟩; have HBs : Aside0 (All w bm b M1 (10 * i + 3) W i (fun j => j = XB) wB ∧ Six XB z0 z1 z2 z3 o z5 wB) := ⟨hk, (hs XB (.inr rfl)).trans HA.out.2⟩; clear hk hs; have k1 := HBs.out.2.c1; have k2 := HBs.out.2.c2; have k3 := HBs.out.2.c3))
          all_goals
            go_wp2
            go_roundw
            case rel => exact ⟨i + 1, M1, W, by omega, by omega, by go_num, ⟨(HBs.out.1.mono (by omega) (by omega)).less⟩, ⟨HLL.out.2 HEC.out⟩⟩
            case measure => simp [intOf]; omega
      · have q0b : (z0 == 0) = false := by rw [beq_eq_false_iff_ne]; exact q0
        clear q0
        by_cases q1 : z0 = 1
        · have q1b : (z0 == 1) = true := by rw [q1]; rfl
          clear q1
          have e1 := HS.out.c1
          obtain ⟨M1, ec, hsv⟩ : ∃ M1 ec, M.remove z1 = (M1, ec) := ⟨_, _, rfl⟩
          have cw : ∀ wx, All w bm b M (10 * i) W i (fun j => j = XB) wx → Calls Try.prog 19 #[.pointer (some ⟨b, 0, none⟩), .int .i64 z1] wx fun e w' => e = .returned (.int .i64 ec) ∧ All w bm b M1 (10 * i + 3) W i (fun j => j = XB) w' ∧ Same (fun j => j = bm ∨ j = XB) wx w' := fun wx h => by
            have := h.at'.remove_calls z1 (by omega)
            rw [hsv] at this
            exact this.mono fun e w' ⟨a, c, d⟩ => ⟨a, h.turn c d, d⟩
          have hL0 : ec = 0 → Lasts at_ len0 M1 (delW at_ z1 len0 W) := fun h => by
            have := HL.out.removed (f := z1) (by rw [hsv]; exact h)
            rw [hsv] at this
            exact this
          have hL1 : ec ≠ 0 → Lasts at_ len0 M1 W := fun h => by
            have := HL.out.not_removed (f := z1) (by rw [hsv]; exact h)
            rw [hsv] at this
            exact this
          have HCC := Aside0.mk cw
          have HLL := Aside0.mk (And.intro hL0 hL1)
          clear cw hL0 hL1 hsv
          go_wp2_with (fail)
          refine (HCC.out _ HB3.out).mono ?_
          rintro e wA ⟨rfl, hk, hs⟩
          have HA : Aside0 (All w bm b M1 (10 * i + 3) W i (fun j => j = XB) wA ∧ Six XB z0 z1 z2 z3 o z5 wA) := ⟨hk, (hs XB (.inr rfl)).trans HS.out⟩
          clear hk hs HB3 HS
          by_cases hec : ec = 0
          · subst hec
            go_wp2_with (fail)
            go_loopw [7] (fun v7 wq => ∃ k : Nat, k ≤ len0 ∧ v7 = .int .i64 k ∧ Aside0 (All w bm b M1 (10 * i + 3) (delW at_ z1 k W) i (fun j => j = XB) wq ∧ Six XB z0 z1 z2 z3 o z5 wq)) (fun v7 _ => len0 - (intOf v7).toNat)
            case atStart => exact ⟨0, by omega, rfl, ⟨by rw [delW_zero]; exact HA.out⟩⟩
            case round =>
              obtain ⟨k, hk, rfl, HQ⟩ := hrel
              clear HA
              by_cases hkl : k < len0
              · obtain ⟨x1, hx1, y0, y1, y2, y3, oy, y5, hop, hy2⟩ := H0.out _ HQ.out.1.below k hkl
                cases hx1
                obtain ⟨_, _, d2, _, _, _, _, _, ⟨ly, uy⟩, _, _⟩ := hop
                rw [← add_off x0 (k * 6) 2 (by decide)] at d2
                have HY2 := Aside0.mk hy2
                have e1 := HQ.out.2.c1
                have wf1 := Med.wf_small l1 u1
                have wf2 := Med.wf_small ly uy
                obtain ⟨w5, u5, p5, g5⟩ := HQ.out.1.drew.map.drop ⟨wf1, wf2⟩ 0
                have HD : Aside0 (All w bm b M1 (10 * i + 3) (delW at_ z1 (k + 1) W) i (fun j => j = XB) w5) := ⟨by
                  have := HQ.out.1.drew.turned g5.grown p5
                  rw [← hy2, delW_succ] at this
                  exact this⟩
                have HS5 : Aside0 (Six XB z0 z1 z2 z3 o z5 w5) := ⟨(g5.grown.block XB (HQ.out.1.at'.lt XB (.inr rfl)) (fun e => by have h : XB = bm := (by simpa using e); omega)).trans HQ.out.2⟩
                have b1 : (0 : Int) ≤ (k : Int) := by omega
                have b2 : (k : Int) < (len0 : Int) := by omega
                obtain ⟨x2, hx2, q0', q1', q2', q3', oq, q5', hop2, hy3⟩ := H0.out _ HD.out.below k hkl
                cases hx2
                have d5 := hop2.c2
                rw [← add_off x0 (k * 6) 2 (by decide), ← hy3, hy2] at d5
                have m1 := HS5.out.c1
                clear p5 g5 hy2 hy3 hop2
                go_upto_region 18 with (fail)
                go_region_held3 (fun w' => w'.cell? ⟨XB, 1, none⟩ = some (.int .i64 z1) ∧ w'.cell? ⟨(x0.add (k * 6)).block, (x0.add (k * 6)).off + 2, none⟩ = some (.int .i64 y2)) (first | (go_split_ands; assumption) | (refine ⟨?_, ?_⟩ <;> assumption) | go_keep) (fail)
                all_goals
                  go_wp2
                  go_roundw
                  case rel => exact ⟨k + 1, by omega, by go_num, ⟨HD.out, HS5.out⟩⟩
                  case measure => simp [intOf]; omega
              · obtain rfl : k = len0 := by omega
                go_wp2
                go_roundw
                case rel => exact ⟨i + 1, M1, _, by omega, by omega, by go_num, ⟨(HQ.out.1.mono (by omega) (by omega)).less⟩, ⟨HLL.out.1 (by trivial)⟩⟩
                case measure => simp [intOf]; omega
          · have hecb : (ec == 0) = false := by rw [beq_eq_false_iff_ne]; exact hec
            have HEC := Aside0.mk hec
            clear hec
            go_wp2
            go_roundw
            case rel => exact ⟨i + 1, M1, W, by omega, by omega, by go_num, ⟨(HA.out.1.mono (by omega) (by omega)).less⟩, ⟨HLL.out.2 HEC.out⟩⟩
            case measure => simp [intOf]; omega
        · have q1b : (z0 == 1) = false := by rw [beq_eq_false_iff_ne]; exact q1
          clear q1
          by_cases q3 : z0 = 3
          · have q3b : (z0 == 3) = true := by rw [q3]; rfl
            clear q3
            have e5 := HS.out.c5
            go_wp2_with (fail)
            refine (HB3.out.at'.arm_calls z5 (by omega)).mono ?_
            rintro e wA ⟨rfl, hk, hs⟩
            have HC := Aside0.mk (HB3.out.turn hk hs)
            clear hk hs
            go_wp2
            go_roundw
            case rel => exact ⟨i + 1, M.arm z5, W, by omega, by omega, by go_num, ⟨(HC.out.mono (by omega) (by omega)).less⟩, ⟨HL.out.arm z5⟩⟩
            case measure => simp [intOf]; omega
          · have q3b : (z0 == 3) = false := by rw [beq_eq_false_iff_ne]; exact q3
            clear q3
            by_cases q4 : z0 = 4
            · have q4b : (z0 == 4) = true := by rw [q4]; rfl
              clear q4
              go_wp2_with (fail)
              refine (HB3.out.at'.on_calls).mono ?_
              rintro e wA ⟨rfl, hk, hs⟩
              have HC := Aside0.mk (HB3.out.turn hk hs)
              clear hk hs
              go_wp2
              go_roundw
              case rel => exact ⟨i + 1, M.on, W, by omega, by omega, by go_num, ⟨(HC.out.mono (by omega) (by omega)).less⟩, ⟨HL.out.on⟩⟩
              case measure => simp [intOf]; omega
            · have q4b : (z0 == 4) = false := by rw [beq_eq_false_iff_ne]; exact q4
              clear q4
              go_wp2
              go_roundw
              case rel => exact ⟨i + 1, M, W, by omega, by omega, by go_num, ⟨(HB3.out.mono (by omega) (by omega)).less⟩, ⟨HL.out⟩⟩
              case measure => simp [intOf]; omega
    · have hge : ¬(i < len0) ∨ i < len0 ∧ ¬(i < 300) := by omega
      clear hlt
      rcases hge with h1 | ⟨h1, h2⟩
      all_goals
        go_wp2_with (fail)
        refine (HM.out.at'.on_calls).mono ?_
        rintro e wS ⟨rfl, hk, hs⟩
        have HO := Aside0.mk (HM.out.turn hk hs)
        clear hk hs HM
        go_wp2_with (fail)
        go_loopw [8] (fun v8 wq => ∃ k : Nat, k ≤ 300 ∧ k ≤ len0 ∧ v8 = .int .i64 k ∧ Aside0 (All w bm b M.on (10 * i) W i (fun _ => False) wq)) (fun v8 _ => 300 - (intOf v8).toNat)
        case atStart => exact ⟨0, by omega, by omega, rfl, HO⟩
        case round =>
          obtain ⟨k, hk, hk0, rfl, HQ⟩ := hrel
          clear HO
          by_cases hkl : k < len0 ∧ k < 300
          · obtain ⟨hkl, hk300⟩ := hkl
            obtain ⟨x0, rfl, z0, z1, z2, z3, o, z5, hop, _⟩ := H0.out _ HQ.out.below k hkl
            obtain ⟨_, d1, d2, _, _, _, _, ⟨l1, u1⟩, ⟨l2, u2⟩, _, _⟩ := hop
            rw [← add_off x0 (k * 6) 1 (by decide)] at d1
            rw [← add_off x0 (k * 6) 2 (by decide)] at d2
            have b1 : (0 : Int) ≤ (k : Int) := by omega
            have b2 : (k : Int) < (len0 : Int) := by omega
            have ne1 := World.new_ne _ _ d1
            have ne2 := World.new_ne _ _ d2
            have wf1 := Med.wf_small l1 u1
            have wf2 := Med.wf_small l2 u2
            go_upto_region 27 with (fail)
            go_region_held3 (fun w' => w'.cell? ⟨(x0.add (k * 6)).block, (x0.add (k * 6)).off + 1, none⟩ = some (.int .i64 z1) ∧ w'.cell? ⟨(x0.add (k * 6)).block, (x0.add (k * 6)).off + 2, none⟩ = some (.int .i64 z2)) (go_keep) (fail)
            all_goals
              obtain ⟨w7, h7⟩ : ∃ w7, (wr.alloc (.cells #[.int .i64 z1, .int .i64 z2] 46 (0, 0))).drew = w7 := ⟨_, rfl⟩
              rw [h7]
              have HA7 : Aside0 (All w bm b M.on (10 * i) W i (fun _ => False) w7) := ⟨by rw [← h7]; exact (HQ.out.after ((Below.refl _ _).alloc (Nat.le_refl _) _)).drew⟩
              obtain ⟨PB, hPB⟩ : ∃ PB, PB = wr.heap.size := ⟨_, rfl⟩
              have hp7 : w7.heap[PB]? = some (.cells #[.int .i64 z1, .int .i64 z2] 46 (0, 0)) := by rw [← h7, hPB]; exact heap_alloc_new wr _
              rw [← hPB]
              have p0 : w7.cell? ⟨PB, 0, none⟩ = some (.int .i64 z1) := by simp [World.cell?, hp7]
              have p1 : w7.cell? ⟨PB, 1, none⟩ = some (.int .i64 z2) := by simp [World.cell?, hp7]
              have hlk := HA7.out.map.look ⟨wf1, wf2⟩
              have hrd := HA7.out.at'.read_calls z1 z2
              have HQ7 := Aside0.mk hp7
              clear h7 hPB hp7 HQ ne1 ne2 d1 d2 wf1 wf2
              rcases HL.out.on.read rfl z1 z2 with ⟨s, e1, e2⟩ | ⟨e1, e2⟩
              · rw [e1] at hlk
                rw [e2] at hrd
                simp only [Option.getD_some, Option.isSome_some] at hlk
                clear e1 e2
                go_wp2_with (go_at_call 21; refine hrd.mono ?_; rintro e wR ⟨rfl, m, hm⟩; have HR : Aside0 (All w bm b M.on (10 * i) W i (fun _ => False) wR) := ⟨by rw [hm]; exact HA7.out.drawn m⟩; clear hm)
                go_roundw
                case rel => exact ⟨k + 1, by omega, by omega, by go_num, HR⟩
                case measure => simp [intOf]; omega
              · rw [e1] at hlk
                simp only [Option.getD_none, Option.isSome_none] at hlk
                rcases e2 with e2 | e2
                all_goals
                  rw [e2] at hrd
                  clear e1 e2
                  go_wp2_with (go_at_call 21; refine hrd.mono ?_; rintro e wR ⟨rfl, m, hm⟩; have HR : Aside0 (All w bm b M.on (10 * i) W i (fun _ => False) wR) := ⟨by rw [hm]; exact HA7.out.drawn m⟩; clear hm)
                  go_roundw
                  case rel => exact ⟨k + 1, by omega, by omega, by go_num, HR⟩
                  case measure => simp [intOf]; omega
          · have hge2 : ¬(k < len0) ∨ k < len0 ∧ ¬(k < 300) := by omega
            clear hkl
            rcases hge2 with k1 | ⟨k1, k2⟩
            all_goals try omega
            all_goals
              go_wp2_with (fail)
              refine (MedAw.awake_calls _).mono ?_
              rintro e wS ⟨rfl, hh⟩
              have HF := Aside0.mk (HQ.out.below.trans (hh.mono HQ.out.below.size))
              clear hh
              go_wp2_with (fail)
              go_ret
              exact ⟨rfl, HF.out⟩
end Go.Proofs.Ytdjcaogffppdhaa.LawMLasts
