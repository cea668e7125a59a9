/- slots.Load, walked. -/
import Derived.Test.YtojehachhfcfaaaSlot
import Derived.Test.YtojehachhfcfaaaSlLaw
set_option linter.unusedVariables false
set_option linter.unusedSimpArgs false
namespace Go.Proofs.Ytojehachhfcfaaa.Load
open Go.RowKit Go.Proofs.Ytojehachhfcfaaa.SumPure Go.Proofs.Ytojehachhfcfaaa.Arr Go.Proofs.Ytojehachhfcfaaa.SlSect Go.Proofs.Ytojehachhfcfaaa.Save Go.Proofs.Ytojehachhfcfaaa.SlPure Go.Proofs.Ytojehachhfcfaaa.SlLaw Go.Proofs.Ytojehachhfcfaaa.Slot Go.Proofs.YtojehachhfcfaaaW.PrintWords Go.Proofs.YtojehachhfcfaaaW.PrintLast Go.Proofs.YtojehachhfcfaaaW.PrintMore
open Go.Proofs.Ytojehachhfcfaaa.Med (IsMed read_calls Med)
def stateAt (M : Med) : Nat → Int × List UInt8 × Bool
  | 0 => (0, [], false)
  | 1 => load1 (slotP M 0) (0, [], false)
  | _ => loadP M
theorem stateAt_succ (M : Med) (i : Nat) (h : i < 2) : stateAt M (i + 1) = load1 (slotP M i) (stateAt M i) := by
  rcases (show i = 0 ∨ i = 1 from by omega) with rfl | rfl <;> rfl
set_option maxHeartbeats 4000000 in
set_option maxRecDepth 100000 in
theorem load_nil (w : World) : Calls Try.prog 27 #[.pointer none] w fun e w' => e = .returned (.tuple #[.int .i64 0, .string ⟨#[]⟩, .int .i64 2]) ∧ w = w' := by
  go_enter Try.func27, Try.ntmps27
  go_wp2
  go_ret3
  exact ⟨rfl, rfl⟩
set_option maxHeartbeats 16000000 in
set_option maxRecDepth 100000 in
theorem load_calls {w : World} {own : Nat → Prop} {b : Nat} {M : Med} {n : Nat} (h : IsMed w own b M n) :
    Calls Try.prog 27 #[.pointer (some ⟨b, 0, none⟩)] w fun e w' => e = .returned (.tuple #[.int .i64 (newest M).1, .string ⟨(newest M).2.1.toArray⟩, .int .i64 (newest M).2.2]) ∧ Below w.heap.size w w' := by
  obtain ⟨rs, re, hr⟩ : ∃ s e, M.read 0 0 = (s, e) := ⟨_, _, rfl⟩
  obtain ⟨R, hR⟩ : ∃ R, R = newest M := ⟨_, rfl⟩
  rw [← hR]
  unfold newest at hR
  have hrd := read_calls h 0 0
  rw [hr] at hrd hR
  have H := Aside0.mk h
  have HR := Aside0.mk hR
  clear h hR hr
  go_enter Try.func27, Try.ntmps27
  rcases Decidable.em (re = 40) with h40 | h40
  · subst h40
    go_wp2_with (go_at_call 50; refine hrd.mono ?_; rintro e w' ⟨rfl, m1, rfl⟩)
    go_ret3
    have e : R = (0, [], 40) := by rw [HR.out]; simp
    subst e
    exact ⟨rfl, below_drewN _ _⟩
  · have hb : (re == 40) = false := by simp [h40]
    go_upto_region 6 with (go_at_call 50; refine hrd.mono ?_; rintro e w' ⟨rfl, m1, rfl⟩)
    go_name_world w1 hw1
    have HL1 : Aside0 (Below w.heap.size w w1) := ⟨by rw [← hw1]; exact below_drewN _ _⟩
    clear hw1 hrd
    have HR2 : Aside0 (R = if (loadP M).2.2 = true then ((loadP M).1, (loadP M).2.1, 0) else (0, [], 41)) := ⟨by rw [HR.out, if_neg h40]⟩
    clear HR
    go_wp2
    go_loopw [7, 8, 9, 24] (fun v7 v8 v9 v24 wr => ∃ (i : Nat) (an : Int) (ad : List UInt8) (ab : Bool), i ≤ 2 ∧ v24 = .int .i64 i ∧ v7 = .int .i64 an ∧ v8 = .string ⟨ad.toArray⟩ ∧ v9 = .bool ab ∧ Aside0 ((an, ad, ab) = stateAt M i) ∧ Aside0 (Below w.heap.size w wr)) (fun _ _ _ v24 _ => 2 - (intOf v24).toNat)
    case atStart => exact ⟨0, 0, [], false, by omega, rfl, rfl, rfl, rfl, ⟨rfl⟩, ⟨HL1.out⟩⟩
    case round =>
      obtain ⟨i, an, ad, ab, hi, rfl, rfl, rfl, rfl, HA, HL⟩ := hrel
      by_cases hlt : i < 2
      · have hsl := slot_calls (H.out.below HL.out) (i : Int)
        obtain ⟨sn, sd, sb, hs⟩ : ∃ n d b, slotP M i = (n, d, b) := ⟨_, _, _, rfl⟩
        rw [hs] at hsl
        have HS := Aside0.mk hs
        clear hs
        cases sb with
        | false =>
          go_wp2_with (go_at_call 51; refine hsl.mono ?_; rintro e w' ⟨rfl, hbl⟩; have HBL := Aside0.mk hbl; clear hbl)
          go_roundw
          case rel =>
            refine ⟨i + 1, an, ad, ab, by omega, by go_num, rfl, rfl, rfl, ⟨?_⟩, ⟨HL.out.trans (HBL.out.mono HL.out.size)⟩⟩
            rw [stateAt_succ M i hlt, HS.out, ← HA.out]
            unfold load1
            rw [if_neg (by simp)]
          case measure => simp [intOf]; omega
        | true =>
          by_cases hg : sn > an
          · go_wp2_with (go_at_call 51; refine hsl.mono ?_; rintro e w' ⟨rfl, hbl⟩; have HBL := Aside0.mk hbl; clear hbl)
            go_roundw
            case rel =>
              refine ⟨i + 1, sn, sd, true, by omega, by go_num, rfl, rfl, rfl, ⟨?_⟩, ⟨HL.out.trans (HBL.out.mono HL.out.size)⟩⟩
              rw [stateAt_succ M i hlt, HS.out, ← HA.out, load1_gt hg]
            case measure => simp [intOf]; omega
          · go_wp2_with (go_at_call 51; refine hsl.mono ?_; rintro e w' ⟨rfl, hbl⟩; have HBL := Aside0.mk hbl; clear hbl)
            go_roundw
            case rel =>
              refine ⟨i + 1, an, ad, ab, by omega, by go_num, rfl, rfl, rfl, ⟨?_⟩, ⟨HL.out.trans (HBL.out.mono HL.out.size)⟩⟩
              rw [stateAt_succ M i hlt, HS.out, ← HA.out, load1_le (show ¬ sn > an by omega)]
            case measure => simp [intOf]; omega
      · obtain rfl : i = 2 := by omega
        have HA2 : Aside0 ((an, ad, ab) = loadP M) := ⟨HA.out⟩
        cases ab with
        | true =>
          go_wp2
          go_ret3
          have e : R = (an, ad, 0) := by rw [HR2.out, ← HA2.out]; simp
          subst e
          exact ⟨rfl, HL.out⟩
        | false =>
          go_wp2
          go_ret3
          have e : R = (0, [], 41) := by rw [HR2.out, ← HA2.out]; simp
          subst e
          exact ⟨rfl, HL.out⟩
end Go.Proofs.Ytojehachhfcfaaa.Load
