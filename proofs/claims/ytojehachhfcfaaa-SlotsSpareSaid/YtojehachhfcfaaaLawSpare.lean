/- The law SlotsSpare, walked. -/
import Derived.Test.YtojehachhfcfaaaSaveX
import Derived.Test.YtojehachhfcfaaaArgs
import Derived.Deep.RegionHeld3
import Derived.Deep.RegionWith
import Derived.BigRegion
import Derived.RegionTactic
import Derived.Deep.RegionLaw
import Derived.Deep.DeepCutAuto
set_option linter.unusedVariables false
set_option linter.unusedSimpArgs false
namespace Go.Proofs.Ytojehachhfcfaaa.LawSpare
open Go.RowKit Go.Proofs.Ytojehachhfcfaaa.SumPure Go.Proofs.Ytojehachhfcfaaa.SlSect Go.Proofs.Ytojehachhfcfaaa.Save Go.Proofs.Ytojehachhfcfaaa.SlPure Go.Proofs.Ytojehachhfcfaaa.SlLaw Go.Proofs.Ytojehachhfcfaaa.AtX
open Go.Proofs.YtojehachhfcfaaaW.PrintWords Go.Proofs.YtojehachhfcfaaaW.PrintLast Go.Proofs.YtojehachhfcfaaaW.PrintMore
open Go.Proofs.Ytojehachhfcfaaa.Med (IsMed Med Ranged IsSize)
open Go.Proofs.Ytojehachhfcfaaa.Args
attribute [local go_sem] max2_int min2_int max_two min_two
/-- Files 0 and 1 have just the sectors below m0 and m1. -/
structure Spare (M : Med) (m0 m1 : Int) : Prop where
  s0 : ∀ j : Nat, (M.S 0 j).isSome = true ↔ (j : Int) < m0
  s1 : ∀ j : Nat, (M.S 1 j).isSome = true ↔ (j : Int) < m1
  a0 : 0 ≤ m0
  a1 : 0 ≤ m1
  b0 : m0 ≤ 95
  b1 : m1 ≤ 95
  rg : Ranged M
theorem size_is {M : Med} {f r m : Int} (h : IsSize M f r) (hs : ∀ j : Nat, (M.S f j).isSome = true ↔ (j : Int) < m) (h0 : 0 ≤ m) (hr : Ranged M) : r = m := by
  have h1 : r ≤ m := by
    rcases h.at_ with e | ⟨s, e⟩
    · omega
    · obtain ⟨_, _, a, _⟩ := hr f _ s e
      have := (hs (r - 1).toNat).1 (by rw [show (((r - 1).toNat : Nat) : Int) = r - 1 from by omega, e]; rfl)
      omega
  have h2 : m ≤ r := by
    rcases Int.lt_or_le 0 m with hm | hm
    · have := (hs (m - 1).toNat).2 (by omega)
      rw [show (((m - 1).toNat : Nat) : Int) = m - 1 from by omega] at this
      obtain ⟨s, e⟩ := Option.isSome_iff_exists.1 this
      have := h.up _ s e
      omega
    · have := h.lo
      omega
  omega
theorem Ranged.saveL {n : Int} {D : List UInt8} {q : Nat} {f : Int} : ∀ (m i : Nat) {M : Med}, Ranged M → Ranged (saveL n D q f m i M).1 := by
  intro m
  induction m with
  | zero => intro i M h; exact h
  | succ m ih =>
    intro i M h
    rw [Save.saveL]
    split
    · exact ih (i + 1) (h.write _ _ _)
    · exact h.write _ _ _
theorem Ranged.save {n : Int} {D : List UInt8} {M : Med} (h : Ranged M) : Ranged (save M n D).1 := by
  unfold Save.save
  split
  · exact h
  · exact Ranged.saveL _ _ h
theorem saves_S {M : Med} {sure : Int} {was : List UInt8} (h : SlLaw.Inv M sure was) {D : List UInt8} (hs : sure < 2147483647) (hD : D.length ≤ 1000000) :
    ∀ g (j : Nat), (save M (sure + 1) D).1.S g j = if g = (sure + 1) % 2 ∧ 0 ≤ j ∧ j < 0 + scnt D.length then some (ssec (sure + 1) D (scnt D.length) j) else M.S g j := by
  have hq : scnt D.length < 65536 := by unfold scnt; omega
  have h0 := h.s0
  rw [save_go (by omega) (by omega) hD]
  obtain ⟨c, c1, c10, c2, c3, c4, c5, c6, c7, c8, c9⟩ := saveL_ends (sure + 1) D (scnt D.length) ((sure + 1) % 2) (by omega) (by omega) (scnt D.length) 0 M (by omega) h.off (by rw [h.left]; omega)
  obtain rfl := c3 h.left
  exact c9
theorem Spare.step0 {M : Med} {sure m0 m1 : Int} {was : List UInt8} (h : Spare M m0 m1) (hi : SlLaw.Inv M sure was) {D : List UInt8} (hs : sure < 2147483647) (hD : D.length ≤ 5000) (hp : (sure + 1) % 2 = 0) :
    Spare (save M (sure + 1) D).1 (if m0 < (scnt D.length : Int) then (scnt D.length : Int) else m0) m1 := by
  have hq : scnt D.length ≤ 95 := by unfold scnt; omega
  have hS := saves_S hi (D := D) hs (by omega)
  rw [hp] at hS
  have := h.a0
  have := h.b0
  refine ⟨fun j => ?_, fun j => ?_, by split <;> omega, h.a1, by split <;> omega, h.b1, Ranged.save h.rg⟩
  · rw [hS]
    by_cases hc : (0 : Int) = 0 ∧ 0 ≤ j ∧ j < 0 + scnt D.length
    · rw [if_pos hc]; simp; split <;> omega
    · rw [if_neg hc, h.s0 j]; split <;> omega
  · rw [hS, if_neg (by omega)]; exact h.s1 j
theorem Spare.step1 {M : Med} {sure m0 m1 : Int} {was : List UInt8} (h : Spare M m0 m1) (hi : SlLaw.Inv M sure was) {D : List UInt8} (hs : sure < 2147483647) (hD : D.length ≤ 5000) (hp : (sure + 1) % 2 = 1) :
    Spare (save M (sure + 1) D).1 m0 (if m1 < (scnt D.length : Int) then (scnt D.length : Int) else m1) := by
  have hq : scnt D.length ≤ 95 := by unfold scnt; omega
  have hS := saves_S hi (D := D) hs (by omega)
  rw [hp] at hS
  have := h.a1
  have := h.b1
  refine ⟨fun j => ?_, fun j => ?_, h.a0, by split <;> omega, h.b0, by split <;> omega, Ranged.save h.rg⟩
  · rw [hS, if_neg (by omega)]; exact h.s0 j
  · rw [hS]
    by_cases hc : (1 : Int) = 1 ∧ 0 ≤ j ∧ j < 0 + scnt D.length
    · rw [if_pos hc]; simp; split <;> omega
    · rw [if_neg hc, h.s1 j]; split <;> omega
/-- The array of two numbers. -/
def Two (A : Nat) (m0 m1 : Int) (w : World) : Prop := w.heap[A]? = some (.cells #[.int .i64 m0, .int .i64 m1] 66 (0, 0))
theorem Two.set0 {A : Nat} {m0 m1 x : Int} {w : World} (h : Two A m0 m1 w) : Two A x m1 (w.setCell ⟨A, 0, none⟩ (.int .i64 x)) := Med.heap_set h 0 _
theorem Two.set1 {A : Nat} {m0 m1 x : Int} {w : World} (h : Two A m0 m1 w) : Two A m0 x (w.setCell ⟨A, 1, none⟩ (.int .i64 x)) := Med.heap_set h 1 _
theorem Two.cell0 {A : Nat} {m0 m1 : Int} {w : World} (h : Two A m0 m1 w) : w.cell? ⟨A, 0, none⟩ = some (.int .i64 m0) := by unfold Two at h; simp [World.cell?, h]
theorem Two.cell1 {A : Nat} {m0 m1 : Int} {w : World} (h : Two A m0 m1 w) : w.cell? ⟨A, 1, none⟩ = some (.int .i64 m1) := by unfold Two at h; simp [World.cell?, h]
theorem below_drewN (w : World) (m : Nat) : Below w.heap.size w (w.drewN m) := ⟨rfl, rfl, rfl, Nat.le_refl _, fun _ _ => rfl⟩
theorem frame_one (A : Nat) (w : World) (m i : Nat) (v : Value) : Med.Frame (fun j => j = A) w ((w.setCell ⟨A, i, none⟩ v).drewN m) := ⟨rfl, rfl, rfl, by simp, fun j _ hj => Med.heap_set_ne (w := w) hj i v⟩
set_option maxHeartbeats 16000000 in
set_option maxRecDepth 100000 in
theorem walk (a0 : Option Addr) (len0 cap0 : Nat) (l0 : List Int) (w : World) (h0 : Has w a0 len0 l0) :
    Calls Try.prog 12 #[.slice a0 len0 cap0] w fun e w' => e = .returned (.bool true) ∧ Below w.heap.size w w' := by
  have l0le := h0.le
  have H0 := Aside0.mk h0
  clear h0
  go_enter Try.func12, Try.ntmps12
  go_wp2_with (fail)
  refine (AtX.new w).mono ?_
  rintro e w1 ⟨b, rfl, hh⟩
  have HA := Aside0.mk hh
  clear hh
  go_wp2_with (fail)
  go_name_world w2 hw2
  have HT : Aside0 (Two w1.heap.size 0 0 w2) := ⟨by rw [← hw2]; exact heap_alloc_new w1 _⟩
  have HM : Aside0 (AtX w (fun i => i = w1.heap.size) b Med.new 0 w2) := ⟨HA.out.more (by rw [← hw2]; exact (Below.refl _ w1).alloc (Nat.le_refl _) _) _ fun i hi => ⟨.inr (by omega), by rw [← hw2, hi]; simp⟩⟩
  have HB1 : Aside0 (w.heap.size ≤ w1.heap.size) := ⟨HA.out.below.size⟩
  clear hw2 HA
  go_loopw [5] (fun v5 wr => ∃ (i : Nat) (was : List UInt8) (M : Med) (m0 m1 : Int), i ≤ 40 ∧ i ≤ len0 ∧ v5 = .int .i64 i ∧ Aside0 (SlLaw.Inv M i was ∧ Spare M m0 m1) ∧ Aside0 (AtX w (fun i => i = w1.heap.size) b M (300 * i) wr) ∧ Aside0 (Two w1.heap.size m0 m1 wr)) (fun v5 _ => 40 - (intOf v5).toNat)
  case atStart => exact ⟨0, [], Med.new, 0, 0, by omega, by omega, rfl, ⟨Inv.new, ⟨fun j => by simp [Med.Med.new], fun j => by simp [Med.Med.new], by omega, by omega, by omega, by omega, Ranged.new⟩⟩, ⟨HM.out⟩, ⟨HT.out⟩⟩
  case round =>
    obtain ⟨i, was, M, m0, m1, hi, hi0, rfl, HI, HA, HW⟩ := hrel
    clear HM HT
    by_cases hlt : i < len0 ∧ i < 40
    · obtain ⟨hlt, h40⟩ := hlt
      obtain ⟨x0, rfl, hc0, hlo, hhi⟩ := H0.out.at HA.out.below hlt
      obtain ⟨z, hz⟩ : ∃ z, z = l0.getD i 0 := ⟨_, rfl⟩
      rw [← hz] at hc0 hlo hhi
      clear hz
      go_wp2_with (fail)
      refine (Fill.fill_any z i _).mono ?_
      rintro e wS ⟨rfl, hh⟩
      have HB : Aside0 (AtX w (fun i => i = w1.heap.size) b M (300 * i) wS ∧ Two w1.heap.size m0 m1 wS) := ⟨HA.out.after hh, (hh.block _ (HA.out.lt _ rfl)).trans HW.out⟩
      clear hh HA HW
      have hDl : (fillL z i).length ≤ 5000 := by rw [Fill.fillL_len]; omega
      generalize fillL z i = D at *
      have HSC : Aside0 (3 * scnt D.length ≤ 300) := ⟨by unfold scnt; omega⟩
      obtain ⟨hs, IV0, IV1⟩ := HI.out.1.saves (D := D) (by omega) (by omega)
      have hSP0 := HI.out.2.step0 HI.out.1 (D := D) (by omega) hDl
      have hSP1 := HI.out.2.step1 HI.out.1 (D := D) (by omega) hDl
      obtain ⟨M2, hM2⟩ : ∃ X, X = (save M ((i : Int) + 1) D).1 := ⟨_, rfl⟩
      rw [← hM2] at IV1 hSP0 hSP1
      have IV := Aside0.mk IV1
      have HSV : Aside0 (save M ((i : Int) + 1) D = (M2, 0)) := ⟨Prod.ext hM2.symm hs⟩
      have HSP := Aside0.mk (And.intro hSP0 hSP1)
      clear hs IV0 IV1 hM2 hSP0 hSP1
      have csave : ∀ {W}, AtX w (fun i => i = w1.heap.size) b M (300 * i) W → Calls Try.prog 24 #[.pointer (some ⟨b, 0, none⟩), .int .i64 ((i : Int) + 1), .string ⟨D.toArray⟩] W fun e w' => e = .returned (.int .i64 0) ∧ AtX w (fun i => i = w1.heap.size) b M2 (300 * i + 3 * scnt D.length) w' ∧ Same (fun i => i = w1.heap.size) W w' := fun h => by
        have := h.save_calls ((i : Int) + 1) ⟨D.toArray⟩ (by rw [size_mk]; omega) (by omega)
        rw [show (⟨D.toArray⟩ : ByteArray).data.toList = D from by simp, HSV.out, size_mk] at this
        exact this
      go_wp2_with (fail)
      refine (csave HB.out.1).mono ?_
      rintro e wT ⟨rfl, hh, hk⟩
      have HC : Aside0 (AtX w (fun i => i = w1.heap.size) b M2 (300 * i + 300) wT ∧ Two w1.heap.size m0 m1 wT) := ⟨hh.mono (by have := HSC.out; omega), (hk _ rfl).trans HB.out.2⟩
      clear hh hk HB csave HSV
      go_upto_region 11 with (fail)
      obtain ⟨q, hq⟩ : ∃ q : Int, q = (scnt D.length : Int) := ⟨_, rfl⟩
      have csec : ∀ W, Calls Try.prog 25 #[.int .i64 (D.length : Int)] W fun e w' => e = .returned (.int .i64 q) ∧ W = w' := fun W => by rw [hq]; exact sectors_q D.length (by omega) W
      rw [← hq] at HSP
      clear hq
      have c0 : wT.cell? ⟨w1.heap.size, 0, none⟩ = some (.int .i64 m0) := by have := HC.out.2; unfold Two at this; simp [World.cell?, this]
      have c1 : wT.cell? ⟨w1.heap.size, 1, none⟩ = some (.int .i64 m1) := by have := HC.out.2; unfold Two at this; simp [World.cell?, this]
      have cf : ∀ o, wT.frozen? ⟨w1.heap.size, o, none⟩ = false := fun o => by have := HC.out.2; unfold Two at this; simp [World.frozen?, this]
      have ww : IntKind.i64.wrap ((i : Int) + 1) = (i : Int) + 1 := by rw [IntKind.wrap_i64]; omega
      rcases Int.emod_two_eq ((i : Int) + 1) with hp | hp
      · have ht : Int.tmod ((i : Int) + 1) 2 = 0 := by rw [Int.tmod_eq_emod_of_nonneg (by omega)]; exact hp
        have HP := Aside0.mk hp
        clear hp
        go_region_with (first | (go_at_call 25; refine (csec _).mono ?_; rintro e wU ⟨rfl, rfl⟩))
        all_goals
          go_wp2
          go_roundw
          case rel =>
            refine ⟨i + 1, D, M2, (if m0 < q then q else m0), m1, by omega, by omega, by go_num, ⟨?_⟩, ⟨?_⟩, ⟨?_⟩⟩
            · rw [show ((i + 1 : Nat) : Int) = (i : Int) + 1 from by omega]
              exact ⟨IV.out, HSP.out.1 HP.out⟩
            · exact (HC.out.1.beside (frame_one w1.heap.size wT 1 0 (.int .i64 (if m0 < q then q else m0))) _ (fun j hj => ⟨.inl hj, by have := HC.out.1.lt j hj; simpa using this⟩) (Below.drew (HC.out.1.below.setCell (by show w.heap.size ≤ w1.heap.size; exact HB1.out) _))).mono (by omega)
            · exact HC.out.2.set0
          case measure => simp [intOf]; omega
      · have ht : Int.tmod ((i : Int) + 1) 2 = 1 := by rw [Int.tmod_eq_emod_of_nonneg (by omega)]; exact hp
        have HP := Aside0.mk hp
        clear hp
        go_region_with (first | (go_at_call 25; refine (csec _).mono ?_; rintro e wU ⟨rfl, rfl⟩))
        all_goals
          go_wp2
          go_roundw
          case rel =>
            refine ⟨i + 1, D, M2, m0, (if m1 < q then q else m1), by omega, by omega, by go_num, ⟨?_⟩, ⟨?_⟩, ⟨?_⟩⟩
            · rw [show ((i + 1 : Nat) : Int) = (i : Int) + 1 from by omega]
              exact ⟨IV.out, HSP.out.2 HP.out⟩
            · exact (HC.out.1.beside (frame_one w1.heap.size wT 1 1 (.int .i64 (if m1 < q then q else m1))) _ (fun j hj => ⟨.inl hj, by have := HC.out.1.lt j hj; simpa using this⟩) (Below.drew (HC.out.1.below.setCell (by show w.heap.size ≤ w1.heap.size; exact HB1.out) _))).mono (by omega)
            · exact HC.out.2.set1
          case measure => simp [intOf]; omega
    · have csz0 : ∀ W, AtX w (fun i => i = w1.heap.size) b M (300 * i) W → Calls Try.prog 40 #[.pointer (some ⟨b, 0, none⟩), .int .i64 0] W fun e w' => e = .returned (.int .i64 m0) ∧ AtX w (fun i => i = w1.heap.size) b M (300 * i) w' ∧ Same (fun i => i = w1.heap.size) W w' := fun W h =>
        (h.size_calls HI.out.2.rg 0 (by decide)).mono fun e w' ⟨r, he, hr, h1, h2⟩ => ⟨by rw [he, size_is hr HI.out.2.s0 HI.out.2.a0 HI.out.2.rg], h1, h2⟩
      have csz1 : ∀ W, AtX w (fun i => i = w1.heap.size) b M (300 * i) W → Calls Try.prog 40 #[.pointer (some ⟨b, 0, none⟩), .int .i64 1] W fun e w' => e = .returned (.int .i64 m1) ∧ AtX w (fun i => i = w1.heap.size) b M (300 * i) w' ∧ Same (fun i => i = w1.heap.size) W w' := fun W h =>
        (h.size_calls HI.out.2.rg 1 (by decide)).mono fun e w' ⟨r, he, hr, h1, h2⟩ => ⟨by rw [he, size_is hr HI.out.2.s1 HI.out.2.a1 HI.out.2.rg], h1, h2⟩
      have c0 : wr.cell? ⟨w1.heap.size, 0, none⟩ = some (.int .i64 m0) := HW.out.cell0
      have c1 : wr.cell? ⟨w1.heap.size, 1, none⟩ = some (.int .i64 m1) := HW.out.cell1
      have hge : ¬(i < len0) ∨ i < len0 ∧ ¬(i < 40) := by omega
      have HSZ := Aside0.mk (And.intro csz0 csz1)
      clear csz0 csz1 hlt
      rcases hge with h1 | ⟨h1, h2⟩
      all_goals
        go_upto_region 12 with (fail)
        go_region_held3 (fun w' => w'.cell? ⟨w1.heap.size, 0, none⟩ = some (.int .i64 m0) ∧ w'.cell? ⟨w1.heap.size, 1, none⟩ = some (.int .i64 m1)) (first | (go_split_ands; assumption) | go_keep) (first
          | (go_at_call_of 40 (Value.int IntKind.i64 0); refine (HSZ.out.1 _ ?_).mono ?_; exact HA.out.after (below_drewN _ 1); rintro e wX ⟨rfl, hx1, hx2⟩; have HX : Aside0 (AtX w (fun i => i = w1.heap.size) b M (300 * i) wX ∧ Two w1.heap.size m0 m1 wX) := ⟨hx1, (hx2 _ rfl).trans HW.out⟩; clear hx1 hx2; have d0 := HX.out.2.cell0; have d1 := HX.out.2.cell1)
          | (go_at_call_of 40 (Value.int IntKind.i64 1); refine (HSZ.out.2 _ ?_).mono ?_; exact HX.out.1; rintro e wY ⟨rfl, hx1, hx2⟩; have HY : Aside0 (AtX w (fun i => i = w1.heap.size) b M (300 * i) wY ∧ Two w1.heap.size m0 m1 wY) := ⟨hx1, (hx2 _ rfl).trans HX.out.2⟩; clear hx1 hx2; have e0 := HY.out.2.cell0; have e1 := HY.out.2.cell1)
          | (go_at_call 28; refine (At.awake_calls _).mono ?_; rintro e wZ ⟨rfl, hz⟩; have HZ : Aside0 (Below w.heap.size w wZ ∧ Two w1.heap.size m0 m1 wZ) := ⟨HY.out.1.below.trans (hz.mono HY.out.1.below.size), (hz.block _ (HY.out.1.lt _ rfl)).trans HY.out.2⟩; clear hz; have f0 := HZ.out.2.cell0; have f1 := HZ.out.2.cell1))
        all_goals
          go_wp2
          go_ret
          exact ⟨rfl, HZ.out.1⟩
end Go.Proofs.Ytojehachhfcfaaa.LawSpare
