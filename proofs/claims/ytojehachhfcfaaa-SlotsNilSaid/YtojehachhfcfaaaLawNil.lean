/- The law SlotsNil, walked. -/
import Derived.Test.YtojehachhfcfaaaAt
set_option linter.unusedVariables false
set_option linter.unusedSimpArgs false
namespace Go.Proofs.Ytojehachhfcfaaa.LawNil
open Go.RowKit Go.Proofs.Ytojehachhfcfaaa.SumPure Go.Proofs.Ytojehachhfcfaaa.SlSect Go.Proofs.Ytojehachhfcfaaa.Save Go.Proofs.Ytojehachhfcfaaa.SlPure Go.Proofs.Ytojehachhfcfaaa.SlLaw Go.Proofs.Ytojehachhfcfaaa.At
open Go.Proofs.YtojehachhfcfaaaW.PrintWords Go.Proofs.YtojehachhfcfaaaW.PrintLast Go.Proofs.YtojehachhfcfaaaW.PrintMore
open Go.Proofs.Ytojehachhfcfaaa.Med (IsMed Med)
set_option maxHeartbeats 4000000 in
set_option maxRecDepth 100000 in
theorem save_nil (n : Int) (d : ByteArray) (w : World) : Calls Try.prog 24 #[.pointer none, .int .i64 n, .string d] w fun e w' => e = .returned (.int .i64 2) ∧ w = w' := by
  go_enter Try.func24, Try.ntmps24
  go_wp2
  go_ret
  exact ⟨rfl, rfl⟩
set_option maxHeartbeats 16000000 in
set_option maxRecDepth 100000 in
theorem bad_walk (n : Int) (d : ByteArray) (w : World) (hd : d.size ≤ 140737488351232) (hbad : n < 1 ∨ n > 2147483647 ∨ (d.size : Int) > 1000000) :
    Calls Try.prog 11 #[.int .i64 n, .string d] w fun e w' => e = .returned (.bool true) ∧ Below w.heap.size w w' := by
  have hs : save Med.new n d.data.toList = (Med.new, 43) := by unfold save; rw [if_pos (by rw [size_len]; omega)]
  have hl : newest Med.new = (0, [], 41) := Inv.new.loads0
  have HS := Aside0.mk hs
  have HL := Aside0.mk hl
  clear hs hl
  have hc : (decide (n < 1) = true) ∨ (decide (n < 1) = false ∧ decide (2147483647 < n) = true) ∨ (decide (n < 1) = false ∧ decide (2147483647 < n) = false ∧ decide (1000000 < (d.size : Int)) = true) := by
    by_cases h1 : n < 1
    · exact .inl (decide_eq_true h1)
    · by_cases h2 : 2147483647 < n
      · exact .inr (.inl ⟨decide_eq_false h1, decide_eq_true h2⟩)
      · exact .inr (.inr ⟨decide_eq_false h1, decide_eq_false h2, decide_eq_true (by omega)⟩)
  clear hbad
  rcases hc with h1 | ⟨h1, h2⟩ | ⟨h1, h2, h3⟩
  all_goals
    go_enter Try.func11, Try.ntmps11
    go_wp2_with (fail)
    refine (Load.load_nil _).mono ?_
    rintro e w0 ⟨rfl, rfl⟩
    go_wp2_with (fail)
    refine (At.new w).mono ?_
    rintro e w1 ⟨b, rfl, h1'⟩
    have H1 := Aside0.mk h1'
    clear h1'
    go_wp2_with (fail)
    refine (H1.out.save_calls n d (by omega) (by omega)).mono ?_
    rw [HS.out]
    rintro e w2 ⟨rfl, h2'⟩
    have H2 := Aside0.mk h2'
    clear h2' H1
    go_wp2_with (fail)
    refine (H2.out.writes_calls).mono ?_
    rintro e w3 ⟨rfl, rfl⟩
    rw [show Med.new.writes = 0 from rfl]
    go_wp2_with (fail)
    refine (H2.out.load_calls).mono ?_
    rw [HL.out]
    rintro e w4 ⟨rfl, h4'⟩
    have H4 := Aside0.mk h4'
    clear h4' H2
    go_wp2_with (fail)
    refine (save_nil _ _ _).mono ?_
    rintro e w5 ⟨rfl, rfl⟩
    go_wp2_with (fail)
    refine (awake_calls _).mono ?_
    rintro e w6 ⟨rfl, h6'⟩
    have H6 := Aside0.mk (H4.out.after h6')
    clear h6'
    go_wp2_with (fail)
    go_ret
    exact ⟨rfl, H6.out.below⟩
set_option maxHeartbeats 16000000 in
set_option maxRecDepth 100000 in
theorem good_walk (n : Int) (d : ByteArray) (w : World) (h1 : 1 ≤ n) (h2 : n ≤ 2147483647) (h3 : (d.size : Int) ≤ 1000000) :
    Calls Try.prog 11 #[.int .i64 n, .string d] w fun e w' => e = .returned (.bool true) ∧ Below w.heap.size w w' := by
  obtain ⟨hs, hi⟩ := save_new (n := n) (D := d.data.toList) h1 h2 (by rw [size_len]; omega)
  have hl := hi.loads (by omega)
  obtain ⟨M1, hM1⟩ : ∃ X, X = (save Med.new n d.data.toList).1 := ⟨_, rfl⟩
  rw [← hM1] at hl
  have HS : Aside0 (save Med.new n d.data.toList = (M1, 0)) := ⟨Prod.ext hM1.symm hs⟩
  have HL : Aside0 (newest M1 = (n, d.data.toList, 0)) := ⟨hl⟩
  clear hs hl hM1 hi
  have h1' : decide (n < 1) = false := decide_eq_false (by omega)
  have h2' : decide (2147483647 < n) = false := decide_eq_false (by omega)
  have h3' : decide (1000000 < (d.size : Int)) = false := decide_eq_false (by omega)
  go_enter Try.func11, Try.ntmps11
  go_wp2_with (fail)
  refine (Load.load_nil _).mono ?_
  rintro e w0 ⟨rfl, rfl⟩
  go_wp2_with (fail)
  refine (At.new w).mono ?_
  rintro e w1 ⟨b, rfl, hh⟩
  have H1 := Aside0.mk hh
  clear hh
  go_wp2_with (fail)
  refine (H1.out.save_calls n d (by omega) (by omega)).mono ?_
  rw [HS.out]
  rintro e w2 ⟨rfl, hh⟩
  have H2 := Aside0.mk hh
  clear hh H1
  go_wp2_with (fail)
  refine (H2.out.load_calls).mono ?_
  rw [HL.out]
  simp only [ba_eta]
  rintro e w4 ⟨rfl, hh⟩
  have H4 := Aside0.mk hh
  clear hh H2
  go_wp2_with (fail)
  refine (save_nil _ _ _).mono ?_
  rintro e w5 ⟨rfl, rfl⟩
  go_wp2_with (fail)
  refine (awake_calls _).mono ?_
  rintro e w6 ⟨rfl, hh⟩
  have H6 := Aside0.mk (H4.out.after hh)
  clear hh
  go_wp2_with (fail)
  go_ret
  exact ⟨rfl, H6.out.below⟩
theorem walk (n : Int) (d : ByteArray) (w : World) (hd : d.size ≤ 140737488351232) :
    Calls Try.prog 11 #[.int .i64 n, .string d] w fun e w' => e = .returned (.bool true) ∧ Below w.heap.size w w' := by
  by_cases h : n < 1 ∨ n > 2147483647 ∨ (d.size : Int) > 1000000
  · exact bad_walk n d w hd h
  · exact good_walk n d w (by omega) (by omega) (by omega)
end Go.Proofs.Ytojehachhfcfaaa.LawNil
