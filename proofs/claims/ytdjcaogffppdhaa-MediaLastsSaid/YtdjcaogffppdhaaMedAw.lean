/- The chapter's example, walked. -/
import Derived.Test.YtdjcaogffppdhaaMedP
import Derived.Test.YtdjcaogffppdhaaFull
set_option linter.unusedVariables false
set_option linter.unusedSimpArgs false
namespace Go.Proofs.Ytdjcaogffppdhaa.MedAw
open Go.RowKit Go.Proofs.Ytdjcaogffppdhaa.AtX Go.Proofs.Ytdjcaogffppdhaa.MedP Go.Proofs.Ytdjcaogffppdhaa.Full Go.Proofs.Ytdjcaogffppdhaa.Lst
open Go.Proofs.YtdjcaogffppdhaaW.PrintWords Go.Proofs.YtdjcaogffppdhaaW.PrintLast Go.Proofs.YtdjcaogffppdhaaW.PrintMore
open Go.Proofs.Ytdjcaogffppdhaa.Med (IsMed Med Ranged IsSize IsFiles Filed)
/-- A list that a call has laid of itself: one number. -/
theorem one_lst (w : World) (T : TypeId) (z : Int) (c : Nat) (h1 : 1 ≤ c) (h2 : c ≤ 9223372036854775807) : Lst (w.alloc (.cells #[.int .i64 z] T (0, 0))) (.slice (some ⟨w.heap.size, 0, none⟩) 1 c) [z] := by
  refine .inr ⟨w.heap.size, c, rfl, by simp, h1, h2, fun j hj => ?_⟩
  have hj0 : j = 0 := by simp at hj; omega
  subst hj0
  have := heap_alloc_new w (.cells #[.int .i64 z] T (0, 0))
  show World.cell? _ _ = some (.int .i64 z)
  rw [World.cell?]
  simp only [this]
  rfl
set_option maxHeartbeats 16000000 in
set_option maxRecDepth 100000 in
theorem awake_calls (w : World) : Calls Try.prog 16 #[] w fun e w' => e = .returned (.bool true) ∧ Below w.heap.size w w' := by
  obtain ⟨S, hS⟩ : ∃ S, S = fullS 7 false := ⟨_, rfl⟩
  obtain ⟨M1, M2, EX⟩ := example_is S (by rw [hS]; exact fullS_size 7)
  have hS64 : S.size ≤ 9223372036854775807 := by have := fullS_le 7 false; rw [← hS] at this; omega
  have cf : ∀ W, Calls Try.prog 13 #[.int .i64 7, .bool false] W fun e w' => e = .returned (.string S) ∧ Below W.heap.size W w' := fun W => by rw [hS]; exact full_any 7 false W
  have c1 : ∀ {b n W}, AtX w (fun _ => False) b (Med.new.arm 1) n W → n < 100 → Calls Try.prog 12 #[.pointer (some ⟨b, 0, none⟩), .int .i64 2, .int .i64 0, .string S] W fun e w' => e = .returned (.int .i64 0) ∧ AtX w (fun _ => False) b M1 (n + 3) w' := fun {b n W} h hn => by
    have := h.write_calls 2 0 S hS64 (by omega)
    rw [EX.a] at this
    exact this.mono fun e w' ⟨a, c, _⟩ => ⟨a, c⟩
  have c2 : ∀ {b n W}, AtX w (fun _ => False) b M1 n W → n < 100 → Calls Try.prog 12 #[.pointer (some ⟨b, 0, none⟩), .int .i64 2, .int .i64 1, .string S] W fun e w' => e = .returned (.int .i64 40) ∧ AtX w (fun _ => False) b M2 (n + 3) w' := fun {b n W} h hn => by
    have := h.write_calls 2 1 S hS64 (by omega)
    rw [EX.b] at this
    exact this.mono fun e w' ⟨a, c, _⟩ => ⟨a, c⟩
  have c3 : ∀ {b n W}, AtX w (fun _ => False) b M2 n W → Calls Try.prog 21 #[.pointer (some ⟨b, 0, none⟩), .int .i64 2, .int .i64 0] W fun e w' => e = .returned (.tuple #[.string ⟨#[]⟩, .int .i64 40]) ∧ ∃ m, w' = W.drewN m := fun {b n W} h => by
    have := h.read_calls 2 0
    rw [EX.c] at this
    exact this
  have c4 : ∀ {b n W}, AtX w (fun _ => False) b M2.on n W → Calls Try.prog 21 #[.pointer (some ⟨b, 0, none⟩), .int .i64 2, .int .i64 0] W fun e w' => e = .returned (.tuple #[.string S, .int .i64 0]) ∧ ∃ m, w' = W.drewN m := fun {b n W} h => by
    have := h.read_calls 2 0
    rw [EX.d] at this
    exact this
  have c5 : ∀ {b n W}, AtX w (fun _ => False) b M2.on n W → Calls Try.prog 21 #[.pointer (some ⟨b, 0, none⟩), .int .i64 2, .int .i64 1] W fun e w' => e = .returned (.tuple #[.string ⟨#[]⟩, .int .i64 41]) ∧ ∃ m, w' = W.drewN m := fun {b n W} h => by
    have := h.read_calls 2 1
    rw [EX.e] at this
    exact this
  have c6 : ∀ {b n W}, AtX w (fun _ => False) b M2.on n W → n < 100 → Calls Try.prog 27 #[.pointer (some ⟨b, 0, none⟩)] W fun e w' => ∃ v, e = .returned v ∧ Lst w' v [2] ∧ AtX w (fun _ => False) b M2.on n w' := fun {b n W} h hn =>
    (h.files_calls EX.fd (by omega)).mono fun e w' ⟨v, l, he, hl, hv, _, ha, _⟩ => by
      obtain rfl := hl.same EX.f
      exact ⟨v, he, hv, ha.narrow _ fun i hi => hi.elim⟩
  have c7 : ∀ {b n W}, AtX w (fun _ => False) b M2.on n W → Calls Try.prog 15 #[.pointer (some ⟨b, 0, none⟩), .int .i64 2] W fun e w' => e = .returned (.int .i64 1) ∧ AtX w (fun _ => False) b M2.on n w' := fun {b n W} h =>
    (h.size_calls EX.rg 2 (by decide)).mono fun e w' ⟨r, he, hr, ha, _⟩ => ⟨by rw [he, EX.g r hr], ha⟩
  have c8 : ∀ {b n W}, AtX w (fun _ => False) b M2.on n W → Calls Try.prog 14 #[.pointer (some ⟨b, 0, none⟩)] W fun e w' => e = .returned (.int .i64 1) ∧ w' = W := fun {b n W} h => by
    have := h.writes_calls
    rw [EX.w] at this
    exact this
  have dr : ∀ {b n W M}, AtX w (fun _ => False) b M n W → ∀ m, AtX w (fun _ => False) b M n (W.drewN m) := fun h m => h.after ⟨rfl, rfl, rfl, Nat.le_refl _, fun _ _ => rfl⟩
  have HF := Aside0.mk cf
  have HC := Aside0.mk (And.intro @c1 (And.intro @c2 (And.intro @c3 (And.intro @c4 (And.intro @c5 (And.intro @c6 (And.intro @c7 (And.intro @c8 @dr))))))))
  clear cf c1 c2 c3 c4 c5 c6 c7 c8 dr EX hS
  go_enter Try.func16, Try.ntmps16
  go_wp2_with (fail)
  refine (AtX.new w).mono ?_
  rintro e w1 ⟨b, rfl, h1⟩
  have H1 := Aside0.mk h1
  clear h1
  go_wp2_with (fail)
  refine (H1.out.arm_calls 1 (by decide)).mono ?_
  rintro e w2 ⟨rfl, h2, _⟩
  have H2 := Aside0.mk h2
  clear h2 H1
  go_wp2_with (fail)
  refine (HF.out _).mono ?_
  rintro e w3 ⟨rfl, h3⟩
  have H3 := Aside0.mk (H2.out.after h3)
  clear h3 H2
  go_wp2_with (fail)
  refine (HC.out.1 H3.out (by decide)).mono ?_
  rintro e w4 ⟨rfl, h4⟩
  have H4 := Aside0.mk h4
  clear h4 H3
  go_wp2_with (fail)
  refine (HF.out _).mono ?_
  rintro e w5 ⟨rfl, h5⟩
  have H5 := Aside0.mk (H4.out.after h5)
  clear h5 H4
  go_wp2_with (fail)
  refine (HC.out.2.1 H5.out (by decide)).mono ?_
  rintro e w6 ⟨rfl, h6⟩
  have H6 := Aside0.mk h6
  clear h6 H5
  go_wp2_with (fail)
  refine (HC.out.2.2.1 H6.out).mono ?_
  rintro e w7 ⟨rfl, m7, h7⟩
  have H7 : Aside0 (AtX w (fun _ => False) b M2 6 w7) := ⟨by rw [h7]; exact HC.out.2.2.2.2.2.2.2.2 H6.out m7⟩
  clear h7 H6
  go_wp2_with (fail)
  refine (H7.out.on_calls).mono ?_
  rintro e w8 ⟨rfl, h8, _⟩
  have H8 := Aside0.mk h8
  clear h8 H7
  go_wp2_with (fail)
  refine (HC.out.2.2.2.1 H8.out).mono ?_
  rintro e w9 ⟨rfl, m9, h9⟩
  have H9 : Aside0 (AtX w (fun _ => False) b M2.on 6 w9) := ⟨by rw [h9]; exact HC.out.2.2.2.2.2.2.2.2 H8.out m9⟩
  clear h9 H8
  go_wp2_with (fail)
  refine (HC.out.2.2.2.2.1 H9.out).mono ?_
  rintro e w10 ⟨rfl, m10, h10⟩
  have H10 : Aside0 (AtX w (fun _ => False) b M2.on 6 w10) := ⟨by rw [h10]; exact HC.out.2.2.2.2.2.2.2.2 H9.out m10⟩
  clear h10 H9
  go_wp2_with (fail)
  refine (HF.out _).mono ?_
  rintro e w11 ⟨rfl, h11⟩
  have H11 := Aside0.mk (H10.out.after h11)
  clear h11 H10
  go_wp2_with (fail)
  refine (HC.out.2.2.2.2.2.1 H11.out (by decide)).mono ?_
  rintro e w12 ⟨v, rfl, hl, h12⟩
  have H12 := Aside0.mk (And.intro hl h12)
  clear hl h12 H11
  go_wp2_with (fail)
  refine (ints_calls (l := [2]) (H12.out.1.below ((Below.refl _ _).alloc (Nat.le_refl _) _)) (one_lst _ _ 2 1 (by decide) (by decide)) (by decide)).mono ?_
  rintro e w13 ⟨rfl, m13, h13⟩
  have H13 : Aside0 (AtX w (fun _ => False) b M2.on 6 w13) := ⟨by rw [h13]; exact HC.out.2.2.2.2.2.2.2.2 (H12.out.2.after ((Below.refl _ _).alloc (Nat.le_refl _) _)) m13⟩
  clear h13 H12
  go_wp2_with (fail)
  refine (HC.out.2.2.2.2.2.2.1 H13.out).mono ?_
  rintro e w14 ⟨rfl, h14⟩
  have H14 := Aside0.mk h14
  clear h14 H13
  go_wp2_with (fail)
  refine (HC.out.2.2.2.2.2.2.2.1 H14.out).mono ?_
  rintro e w15 ⟨rfl, h15⟩
  have H15 : Aside0 (AtX w (fun _ => False) b M2.on 6 w15) := ⟨by rw [h15]; exact H14.out⟩
  clear h15 H14
  go_wp2_with (fail)
  go_ret
  exact ⟨rfl, H15.out.below⟩
end Go.Proofs.Ytdjcaogffppdhaa.MedAw
