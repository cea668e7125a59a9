/- The law SlotsLasts, walked. -/
import Derived.Test.YtojehachhfcfaaaAt
import Derived.Test.YtojehachhfcfaaaArgs
set_option linter.unusedVariables false
set_option linter.unusedSimpArgs false
namespace Go.Proofs.Ytojehachhfcfaaa.LawLasts
open Go.RowKit Go.Proofs.Ytojehachhfcfaaa.SumPure Go.Proofs.Ytojehachhfcfaaa.SlSect Go.Proofs.Ytojehachhfcfaaa.Save Go.Proofs.Ytojehachhfcfaaa.SlPure Go.Proofs.Ytojehachhfcfaaa.SlLaw Go.Proofs.Ytojehachhfcfaaa.At
open Go.Proofs.YtojehachhfcfaaaW.PrintWords Go.Proofs.YtojehachhfcfaaaW.PrintLast Go.Proofs.YtojehachhfcfaaaW.PrintMore
open Go.Proofs.Ytojehachhfcfaaa.Med (IsMed Med)
open Go.Proofs.Ytojehachhfcfaaa.Args
attribute [local go_sem] max2_int min2_int max_two min_two
theorem tmod_100 (y : Int) : -99 ≤ Int.tmod y 100 ∧ Int.tmod y 100 ≤ 99 := by
  have h1 := Int.tmod_lt_of_pos y (show (0 : Int) < 100 by omega)
  have h2 := Int.tmod_lt_of_pos (-y) (show (0 : Int) < 100 by omega)
  rw [Int.neg_tmod] at h2
  omega
set_option maxHeartbeats 16000000 in
set_option maxRecDepth 100000 in
theorem walk (a0 a1 : Option Addr) (len0 cap0 len1 cap1 : Nat) (l0 l1 : List Int) (w : World) (h0 : Has w a0 len0 l0) (h1 : Has w a1 len1 l1) :
    Calls Try.prog 9 #[.slice a0 len0 cap0, .slice a1 len1 cap1] w fun e w' => e = .returned (.bool true) ∧ Below w.heap.size w w' := by
  have l0le := h0.le
  have l1le := h1.le
  have H0 := Aside0.mk h0
  have H1 := Aside0.mk h1
  clear h0 h1
  go_enter Try.func9, Try.ntmps9
  go_wp2_with (fail)
  refine (At.new w).mono ?_
  rintro e w1 ⟨b, rfl, hh⟩
  have HA := Aside0.mk hh
  clear hh
  go_wp2_with (fail)
  go_loopw [6, 7, 8] (fun v6 v7 v8 wr => ∃ (i : Nat) (sure : Int) (was : List UInt8) (M : Med), i ≤ 60 ∧ i ≤ len0 ∧ 0 ≤ sure ∧ sure ≤ i ∧ v6 = .int .i64 sure ∧ v7 = .string ⟨was.toArray⟩ ∧ v8 = .int .i64 i ∧ Aside0 (SlLaw.Inv M sure was) ∧ Aside0 (At w b M (300 * i) wr)) (fun _ _ v8 _ => 60 - (intOf v8).toNat)
  case atStart => exact ⟨0, 0, [], Med.new, by omega, by omega, by omega, by omega, rfl, rfl, rfl, ⟨Inv.new⟩, ⟨HA.out⟩⟩
  case round =>
    obtain ⟨i, sure, was, M, hi, hi0, hs0, hs1, rfl, rfl, rfl, HI, HM⟩ := hrel
    clear HA
    by_cases hlt : i < len0
    · by_cases h60 : i < 60
      · obtain ⟨x0, rfl, hc0, hlo, hhi⟩ := H0.out.at HM.out.below hlt
        obtain ⟨z, hz⟩ : ∃ z, z = l0.getD i 0 := ⟨_, rfl⟩
        rw [← hz] at hc0 hlo hhi
        clear hz
        go_wp2_with (fail)
        refine (Fill.fill_any z (7 * i) _).mono ?_
        rintro e wS ⟨rfl, hh⟩
        have HF := Aside0.mk (HM.out.after hh)
        clear hh HM
        have hDl : (fillL z (7 * i)).length ≤ 5000 := by rw [Fill.fillL_len]; omega
        generalize fillL z (7 * i) = D at *
        have HSC : Aside0 (3 * scnt D.length ≤ 300) := ⟨by unfold scnt; omega⟩
        have hun : (decide (0 < len1) = false ∨ decide (0 < len1) = true ∧ (((i : Int) % 2 == 1) = false)) ∨ (0 < len1 ∧ decide (0 < len1) = true ∧ (((i : Int) % 2 == 1) = true)) := by
          by_cases h1 : 0 < len1
          · by_cases h2 : (i : Int) % 2 = 1
            · exact .inr ⟨h1, decide_eq_true h1, by rw [h2]; rfl⟩
            · exact .inl (.inr ⟨decide_eq_true h1, by rw [beq_eq_false_iff_ne]; exact h2⟩)
          · exact .inl (.inl (decide_eq_false h1))
        rcases hun with hun | ⟨hl1, hd1, hi2⟩
        · obtain ⟨hs, IV0, _⟩ := HI.out.saves (D := D) (by omega) (by omega)
          obtain ⟨M2, hM2⟩ : ∃ X, X = (save M (sure + 1) D).1 := ⟨_, rfl⟩
          rw [← hM2] at IV0
          have IV := Aside0.mk IV0
          have HSV : Aside0 (save M (sure + 1) D = (M2, 0)) := ⟨Prod.ext hM2.symm hs⟩
          have HNW : Aside0 (newest M2.on = (sure + 1, D, 0)) := ⟨IV0.loads (by omega)⟩
          clear hs IV0 hM2
          have csave : ∀ {W}, At w b M (300 * i) W → Calls Try.prog 24 #[.pointer (some ⟨b, 0, none⟩), .int .i64 (sure + 1), .string ⟨D.toArray⟩] W fun e w' => e = .returned (.int .i64 0) ∧ At w b M2 (300 * i + 3 * scnt D.length) w' := fun h => by
            have := h.save_calls (sure + 1) ⟨D.toArray⟩ (by rw [size_mk]; omega) (by omega)
            rw [show (⟨D.toArray⟩ : ByteArray).data.toList = D from by simp, HSV.out, size_mk] at this
            exact this
          have cload : ∀ {n W}, At w b M2.on n W → Calls Try.prog 27 #[.pointer (some ⟨b, 0, none⟩)] W fun e w' => e = .returned (.tuple #[.int .i64 (sure + 1), .string ⟨D.toArray⟩, .int .i64 0]) ∧ At w b M2.on n w' := fun h => by
            have := h.load_calls
            rw [HNW.out] at this
            exact this
          rcases hun with hd1 | ⟨hd1, hi2⟩
          all_goals
            go_wp2_with (fail)
            refine (csave HF.out).mono ?_
            rintro e wS ⟨rfl, hh⟩
            have HB := Aside0.mk hh
            clear hh HF csave
            have HC := HB
            go_wp2_with (fail)
            refine (HC.out.on_calls).mono ?_
            rintro e wS ⟨rfl, hh⟩
            have HD := Aside0.mk hh
            clear hh HC
            go_wp2_with (fail)
            refine (cload HD.out).mono ?_
            rintro e wS ⟨rfl, hh⟩
            have HE := Aside0.mk hh
            clear hh HD cload
            go_wp2_with (fail)
            go_roundw
            case rel => exact ⟨i + 1, sure + 1, D, M2.on, by omega, by omega, by omega, by omega, by go_num, rfl, by go_num, ⟨IV.out⟩, ⟨HE.out.mono (by have := HSC.out; omega)⟩⟩
            case measure => simp [intOf]; omega
        · obtain ⟨x1, rfl, hc1, hlo1, hhi1⟩ := H1.out.at HF.out.below (j := i % len1) (Nat.mod_lt _ hl1)
          obtain ⟨z1, hz1⟩ : ∃ z, z = l1.getD (i % len1) 0 := ⟨_, rfl⟩
          rw [← hz1] at hc1 hlo1 hhi1
          clear hz1
          have hm0 : (0 : Int) ≤ (i : Int) % (len1 : Int) := Int.emod_nonneg _ (by omega)
          have hm1 : (i : Int) % (len1 : Int) < (len1 : Int) := Int.emod_lt_of_pos _ (by omega)
          go_upto_region 13 with (fail)
          clear hm0 hm1
          have hL := tmod_100 z1
          have hL0 : 0 ≤ (if z1.tmod 100 < 0 then 0 else z1.tmod 100) := by split <;> omega
          have hL1 : (if z1.tmod 100 < 0 then 0 else z1.tmod 100) ≤ 99 := by split <;> omega
          clear hL
          generalize (if z1.tmod 100 < 0 then 0 else z1.tmod 100) = L at *
          clear hc1 hlo1 hhi1
          go_wp2_with (fail)
          refine (HF.out.arm_calls L (by omega)).mono ?_
          rintro e wS ⟨rfl, hh⟩
          have HG := Aside0.mk hh
          clear hh HF
          rcases HI.out.saves_armed (D := D) L (by omega) (by omega) with ⟨hs, _, IV0⟩ | ⟨hs, hlt2, IV0⟩
          · obtain ⟨M2, hM2⟩ : ∃ X, X = (save (M.arm L) (sure + 1) D).1 := ⟨_, rfl⟩
            rw [← hM2] at IV0
            have IV := Aside0.mk IV0
            have HSV : Aside0 (save (M.arm L) (sure + 1) D = (M2, 0)) := ⟨Prod.ext hM2.symm hs⟩
            have HNW : Aside0 (newest M2.on = (sure + 1, D, 0)) := ⟨IV0.loads (by omega)⟩
            clear hs IV0 hM2
            have csave : ∀ {W}, At w b (M.arm L) (300 * i) W → Calls Try.prog 24 #[.pointer (some ⟨b, 0, none⟩), .int .i64 (sure + 1), .string ⟨D.toArray⟩] W fun e w' => e = .returned (.int .i64 0) ∧ At w b M2 (300 * i + 3 * scnt D.length) w' := fun h => by
              have := h.save_calls (sure + 1) ⟨D.toArray⟩ (by rw [size_mk]; omega) (by omega)
              rw [show (⟨D.toArray⟩ : ByteArray).data.toList = D from by simp, HSV.out, size_mk] at this
              exact this
            have cload : ∀ {n W}, At w b M2.on n W → Calls Try.prog 27 #[.pointer (some ⟨b, 0, none⟩)] W fun e w' => e = .returned (.tuple #[.int .i64 (sure + 1), .string ⟨D.toArray⟩, .int .i64 0]) ∧ At w b M2.on n w' := fun h => by
              have := h.load_calls
              rw [HNW.out] at this
              exact this
            go_wp2_with (fail)
            refine (csave HG.out).mono ?_
            rintro e wS ⟨rfl, hh⟩
            have HB := Aside0.mk hh
            clear hh HG csave
            have HC := HB
            go_wp2_with (fail)
            refine (HC.out.on_calls).mono ?_
            rintro e wS ⟨rfl, hh⟩
            have HD := Aside0.mk hh
            clear hh HC
            go_wp2_with (fail)
            refine (cload HD.out).mono ?_
            rintro e wS ⟨rfl, hh⟩
            have HE := Aside0.mk hh
            clear hh HD cload
            go_wp2_with (fail)
            go_roundw
            case rel => exact ⟨i + 1, sure + 1, D, M2.on, by omega, by omega, by omega, by omega, by go_num, rfl, by go_num, ⟨IV.out⟩, ⟨HE.out.mono (by have := HSC.out; omega)⟩⟩
            case measure => simp [intOf]; omega
          · obtain ⟨M2, hM2⟩ : ∃ X, X = (save (M.arm L) (sure + 1) D).1 := ⟨_, rfl⟩
            rw [← hM2] at IV0
            have IV := Aside0.mk IV0
            have HSV : Aside0 (save (M.arm L) (sure + 1) D = (M2, 40)) := ⟨Prod.ext hM2.symm hs⟩
            clear hs hM2
            rcases Decidable.em (sure = 0) with hz0 | hz0
            · subst hz0
              have HNW : Aside0 (newest M2.on = (0, [], 41)) := ⟨IV0.loads0⟩
              clear IV0
              have csave : ∀ {W}, At w b (M.arm L) (300 * i) W → Calls Try.prog 24 #[.pointer (some ⟨b, 0, none⟩), .int .i64 (0 + 1), .string ⟨D.toArray⟩] W fun e w' => e = .returned (.int .i64 40) ∧ At w b M2 (300 * i + 3 * scnt D.length) w' := fun h => by
                have := h.save_calls (0 + 1) ⟨D.toArray⟩ (by rw [size_mk]; omega) (by omega)
                rw [show (⟨D.toArray⟩ : ByteArray).data.toList = D from by simp, HSV.out, size_mk] at this
                exact this
              have cload : ∀ {n W}, At w b M2.on n W → Calls Try.prog 27 #[.pointer (some ⟨b, 0, none⟩)] W fun e w' => e = .returned (.tuple #[.int .i64 0, .string ⟨#[]⟩, .int .i64 41]) ∧ At w b M2.on n w' := fun h => by
                have := h.load_calls
                rw [HNW.out] at this
                exact this
              go_wp2_with (fail)
              refine (csave HG.out).mono ?_
              rintro e wS ⟨rfl, hh⟩
              have HB := Aside0.mk hh
              clear hh HG csave
              go_wp2_with (fail)
              refine (sectors_calls D.length (by omega) _).mono ?_
              rintro e wS ⟨rfl, hh⟩
              have HC := Aside0.mk (HB.out.after hh)
              clear hh HB
              go_wp2_with (fail)
              refine (HC.out.on_calls).mono ?_
              rintro e wS ⟨rfl, hh⟩
              have HD := Aside0.mk hh
              clear hh HC
              go_wp2_with (fail)
              refine (cload HD.out).mono ?_
              rintro e wS ⟨rfl, hh⟩
              have HE := Aside0.mk hh
              clear hh HD cload
              go_wp2_with (fail)
              go_roundw
              case rel => exact ⟨i + 1, 0, was, M2.on, by omega, by omega, by omega, by omega, rfl, rfl, by go_num, ⟨IV.out⟩, ⟨HE.out.mono (by have := HSC.out; omega)⟩⟩
              case measure => simp [intOf]; omega
            · have HNW : Aside0 (newest M2.on = (sure, was, 0)) := ⟨IV0.loads (by omega)⟩
              have hsb : (sure == 0) = false := by rw [beq_eq_false_iff_ne]; exact hz0
              clear IV0
              have csave : ∀ {W}, At w b (M.arm L) (300 * i) W → Calls Try.prog 24 #[.pointer (some ⟨b, 0, none⟩), .int .i64 (sure + 1), .string ⟨D.toArray⟩] W fun e w' => e = .returned (.int .i64 40) ∧ At w b M2 (300 * i + 3 * scnt D.length) w' := fun h => by
                have := h.save_calls (sure + 1) ⟨D.toArray⟩ (by rw [size_mk]; omega) (by omega)
                rw [show (⟨D.toArray⟩ : ByteArray).data.toList = D from by simp, HSV.out, size_mk] at this
                exact this
              have cload : ∀ {n W}, At w b M2.on n W → Calls Try.prog 27 #[.pointer (some ⟨b, 0, none⟩)] W fun e w' => e = .returned (.tuple #[.int .i64 sure, .string ⟨was.toArray⟩, .int .i64 0]) ∧ At w b M2.on n w' := fun h => by
                have := h.load_calls
                rw [HNW.out] at this
                exact this
              go_wp2_with (fail)
              refine (csave HG.out).mono ?_
              rintro e wS ⟨rfl, hh⟩
              have HB := Aside0.mk hh
              clear hh HG csave
              go_wp2_with (fail)
              refine (sectors_calls D.length (by omega) _).mono ?_
              rintro e wS ⟨rfl, hh⟩
              have HC := Aside0.mk (HB.out.after hh)
              clear hh HB
              go_wp2_with (fail)
              refine (HC.out.on_calls).mono ?_
              rintro e wS ⟨rfl, hh⟩
              have HD := Aside0.mk hh
              clear hh HC
              go_wp2_with (fail)
              refine (cload HD.out).mono ?_
              rintro e wS ⟨rfl, hh⟩
              have HE := Aside0.mk hh
              clear hh HD cload
              go_wp2_with (fail)
              go_roundw
              case rel => exact ⟨i + 1, sure, was, M2.on, by omega, by omega, by omega, by omega, rfl, rfl, by go_num, ⟨IV.out⟩, ⟨HE.out.mono (by have := HSC.out; omega)⟩⟩
              case measure => simp [intOf]; omega
      · go_wp2_with (fail)
        refine (awake_calls _).mono ?_
        rintro e wS ⟨rfl, hh⟩
        have HF := Aside0.mk (HM.out.after hh)
        clear hh
        go_wp2_with (fail)
        go_ret
        exact ⟨rfl, HF.out.below⟩
    · go_wp2_with (fail)
      refine (awake_calls _).mono ?_
      rintro e wS ⟨rfl, hh⟩
      have HF := Aside0.mk (HM.out.after hh)
      clear hh
      go_wp2_with (fail)
      go_ret
      exact ⟨rfl, HF.out.below⟩
end Go.Proofs.Ytojehachhfcfaaa.LawLasts
