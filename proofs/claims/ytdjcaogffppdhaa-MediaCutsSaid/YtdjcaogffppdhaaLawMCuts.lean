/- The law MediaCuts, walked. -/
import Derived.Test.YtdjcaogffppdhaaMedAw
import Derived.Deep.DeepCutAuto
import Derived.Deep.CutBlock
set_option linter.unusedVariables false
set_option linter.unusedSimpArgs false
namespace Go.Proofs.Ytdjcaogffppdhaa.LawMCuts
open Go.RowKit Go.Proofs.Ytdjcaogffppdhaa.AtX Go.Proofs.Ytdjcaogffppdhaa.MedP Go.Proofs.Ytdjcaogffppdhaa.Full
open Go.Proofs.YtdjcaogffppdhaaW.PrintWords Go.Proofs.YtdjcaogffppdhaaW.PrintLast Go.Proofs.YtdjcaogffppdhaaW.PrintMore
open Go.Proofs.Ytdjcaogffppdhaa.Med (IsMed Med Ranged IsSize IsFiles Filed)
attribute [local go_sem] max2_int min2_int max_two min_two
set_option maxHeartbeats 16000000 in
set_option maxRecDepth 100000 in
theorem walk (x y : Int) (w : World) (hx0 : -9223372036854775808 ≤ x) (hx1 : x ≤ 9223372036854775807) (hy0 : -9223372036854775808 ≤ y) (hy1 : y ≤ 9223372036854775807) :
    Calls Try.prog 3 #[.int .i64 x, .int .i64 y] w fun e w' => e = .returned (.bool true) ∧ Below w.heap.size w w' := by
  obtain ⟨a, ha⟩ : ∃ a, a = (if y < 0 then 0 else y) := ⟨_, rfl⟩
  have a0 : 0 ≤ a := by rw [ha]; split <;> omega
  have hM0 : Med.new.arm y = Med.new.arm a := by
    rw [ha]
    by_cases hy : y < 0
    · rw [if_pos hy]; unfold Med.Med.arm; rw [if_neg (by omega), if_neg (by omega)]
    · rw [if_neg hy]
  have HA := Aside0.mk ha
  have HM0 := Aside0.mk hM0
  clear ha hM0
  obtain ⟨n, hn⟩ : ∃ n : Nat, (n : Int) = (if 100 < (if x < 0 then 0 else x) then 100 else (if x < 0 then 0 else x)) := ⟨(if 100 < (if x < 0 then 0 else x) then 100 else (if x < 0 then 0 else x)).toNat, by split <;> (try split) <;> omega⟩
  have n1 : n ≤ 100 := by split at hn <;> (try split at hn) <;> omega
  have HN := Aside0.mk hn
  clear hn
  go_enter Try.func3, Try.ntmps3
  go_wp2_with (fail)
  refine (AtX.new w).mono ?_
  rintro e w1 ⟨b, rfl, h1⟩
  have H1 := Aside0.mk h1
  clear h1
  have hcase : x < 0 ∧ n = 0 ∨ (0 ≤ x ∧ x ≤ 100 ∧ x = n) ∨ (0 ≤ x ∧ ¬(x ≤ 100) ∧ n = 100) := by
    have := HN.out
    split at this <;> (try split at this) <;> omega
  go_upto_region 4 with (fail)
  go_cut [6] (fun v6 wx => v6 = .int .i64 (n : Int) ∧ wx = w1)
  case first =>
    rcases hcase with ⟨q, rfl⟩ | ⟨q0, q1, rfl⟩ | ⟨q0, q1, rfl⟩
    · have q' : ¬(0 ≤ x) := by omega
      go_wp2
      go_meet
      exact ⟨rfl, rfl⟩
    · go_wp2
      go_meet
      exact ⟨rfl, rfl⟩
    · go_wp2
      go_meet
      exact ⟨rfl, rfl⟩
  case rest =>
    obtain ⟨rfl, rfl⟩ := hcut
    clear hx0 hx1 hcase
    go_wp2_with (fail)
    refine (H1.out.arm_calls y hy1).mono ?_
    rintro e w2 ⟨rfl, h2, _⟩
    rw [HM0.out] at h2
    have H2 := Aside0.mk h2
    clear h2 H1
    go_wp2_with (fail)
    go_loopw [7, 8] (fun v7 v8 wr => ∃ (i : Nat) (d : Int) (M : Med), i ≤ n ∧ v8 = .int .i64 i ∧ v7 = .int .i64 d ∧ 0 ≤ d ∧ d ≤ 100 ∧ Aside0 (d = if (i : Int) < a then (i : Int) else a) ∧ Aside0 (Cut M a i) ∧ Aside0 (AtX w (fun _ => False) b M (3 * i) wr)) (fun _ v8 _ => n - (intOf v8).toNat)
    case atStart => exact ⟨0, 0, _, by omega, rfl, rfl, by omega, by omega, ⟨by split <;> omega⟩, ⟨Cut.start a0⟩, ⟨H2.out⟩⟩
    case round =>
      obtain ⟨i, d, M, hi, rfl, rfl, d0, d1, HD, HC, HM⟩ := hrel
      clear H2
      by_cases hlt : i < n
      · obtain ⟨S, hS⟩ : ∃ S, S = fullS i false := ⟨_, rfl⟩
        have hs64 : S.size = 64 := by rw [hS]; exact fullS_size i
        have cf : ∀ W, Calls Try.prog 13 #[.int .i64 i, .bool false] W fun e w' => e = .returned (.string S) ∧ Below W.heap.size W w' := fun W => by rw [hS]; exact full_any i false W
        obtain ⟨hw1, hw2⟩ := HC.out.step (by omega) (by omega) hs64
        obtain ⟨M1, ec, hwr⟩ : ∃ M1 ec, M.write 5 i S = (M1, ec) := ⟨_, _, rfl⟩
        rw [hwr] at hw1 hw2
        have cw : ∀ W, AtX w (fun _ => False) b M (3 * i) W → Calls Try.prog 12 #[.pointer (some ⟨b, 0, none⟩), .int .i64 5, .int .i64 i, .string S] W fun e w' => e = .returned (.int .i64 ec) ∧ AtX w (fun _ => False) b M1 (3 * (i + 1)) w' := fun W h => by
          have := h.write_calls 5 i S (by omega) (by omega)
          rw [hwr] at this
          exact this.mono fun e w' ⟨a, c, _⟩ => ⟨a, c⟩
        have HF := Aside0.mk cf
        have HW := Aside0.mk cw
        have HCN := Aside0.mk hw2
        have hw1' : ec = if (i : Int) < a then 0 else 40 := hw1
        clear cf cw hw2 hw1 hwr hS hs64
        go_wp2_with (fail)
        refine (HF.out _).mono ?_
        rintro e w3 ⟨rfl, h3⟩
        have H3 := Aside0.mk (HM.out.after h3)
        clear h3 HM
        go_wp2_with (fail)
        refine (HW.out _ H3.out).mono ?_
        rintro e w4 ⟨rfl, h4⟩
        have H4 := Aside0.mk h4
        clear h4 H3
        by_cases hia : (i : Int) < a
        · rw [if_pos hia] at hw1'
          subst hw1'
          have hd := HD.out
          rw [if_pos hia] at hd
          subst hd
          go_wp2
          go_roundw
          case rel => exact ⟨i + 1, (i : Int) + 1, M1, by omega, by go_num, rfl, by omega, by omega, ⟨by split <;> omega⟩, ⟨by rw [show ((i + 1 : Nat) : Int) = (i : Int) + 1 from by omega]; exact HCN.out⟩, ⟨H4.out⟩⟩
          case measure => simp [intOf]; omega
        · rw [if_neg hia] at hw1'
          subst hw1'
          have hd := HD.out
          rw [if_neg hia] at hd
          subst hd
          go_wp2
          go_roundw
          case rel => exact ⟨i + 1, d, M1, by omega, by go_num, rfl, by omega, by omega, ⟨by split <;> omega⟩, ⟨by rw [show ((i + 1 : Nat) : Int) = (i : Int) + 1 from by omega]; exact HCN.out⟩, ⟨H4.out⟩⟩
          case measure => simp [intOf]; omega
      · obtain rfl : i = n := by omega
        have hW : M.writes = d := by rw [HC.out.writes, HD.out]
        have cw : ∀ W, AtX w (fun _ => False) b M (3 * i) W → Calls Try.prog 14 #[.pointer (some ⟨b, 0, none⟩)] W fun e w' => e = .returned (.int .i64 d) ∧ w' = W := fun W h => by
          have := h.writes_calls
          rw [hW] at this
          exact this
        have cs : ∀ W, AtX w (fun _ => False) b M (3 * i) W → Calls Try.prog 15 #[.pointer (some ⟨b, 0, none⟩), .int .i64 5] W fun e w' => e = .returned (.int .i64 d) ∧ AtX w (fun _ => False) b M (3 * i) w' := fun W h =>
          (h.size_calls HC.out.rg 5 (by decide)).mono fun e w' ⟨r, he, hr, ha, _⟩ => ⟨by rw [he, HC.out.size (by omega) hr, ← HD.out], ha⟩
        have HCW := Aside0.mk (And.intro cw cs)
        have hmx : (y < 0 ∧ a = 0) ∨ (0 ≤ y ∧ a = y) := by
          have := HA.out
          split at this <;> omega
        have hmn : ((i : Int) ≤ a ∧ d = i) ∨ (¬((i : Int) ≤ a) ∧ d = a) := by
          have := HD.out
          split at this <;> omega
        clear cw cs hW hlt HC HA
        rcases hmx with ⟨y1, rfl⟩ | ⟨y1, rfl⟩
        all_goals
          rcases hmn with ⟨m1, rfl⟩ | ⟨m1, rfl⟩
          all_goals
            go_wp2_with (fail)
            refine (HCW.out.1 _ HM.out).mono ?_
            rintro e w5 ⟨rfl, h5⟩
            have H5 : Aside0 (AtX w (fun _ => False) b M (3 * i) w5) := ⟨by rw [h5]; exact HM.out⟩
            clear h5
            go_wp2_with (fail)
            refine (HCW.out.2 _ H5.out).mono ?_
            rintro e w6 ⟨rfl, h6⟩
            have H6 := Aside0.mk h6
            clear h6 H5
            go_wp2_with (fail)
            refine (MedAw.awake_calls _).mono ?_
            rintro e w7 ⟨rfl, h7⟩
            have H7 := Aside0.mk (H6.out.below.trans (h7.mono H6.out.below.size))
            clear h7 H6
            go_wp2_with (fail)
            go_ret
            exact ⟨rfl, H7.out⟩
end Go.Proofs.Ytdjcaogffppdhaa.LawMCuts
