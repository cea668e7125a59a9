/- A media that a call has made, tracked through the calls that follow: what each of them answers. -/
import Derived.Test.YtojehachhfcfaaaLoad
import Derived.Test.YtojehachhfcfaaaFill
set_option linter.unusedVariables false
set_option linter.unusedSimpArgs false
namespace Go.Proofs.Ytojehachhfcfaaa.At
open Go.RowKit Go.Proofs.Ytojehachhfcfaaa.SumPure Go.Proofs.Ytojehachhfcfaaa.SlSect Go.Proofs.Ytojehachhfcfaaa.Save Go.Proofs.Ytojehachhfcfaaa.SlPure Go.Proofs.Ytojehachhfcfaaa.SlLaw Go.Proofs.Ytojehachhfcfaaa.Load
open Go.Proofs.Ytojehachhfcfaaa.Med (IsMed Med)
open Go.Proofs.YtojehachhfcfaaaW.PrintWords Go.Proofs.YtojehachhfcfaaaW.PrintLast Go.Proofs.YtojehachhfcfaaaW.PrintMore
/-- The media at b is one that was made behind the world w0; nothing that stood in w0 has turned. -/
structure At (w0 : World) (b : Nat) (M : Med) (n : Nat) (w : World) : Prop where
  med : IsMed w (fun i => w0.heap.size ≤ i) b M n
  below : Below w0.heap.size w0 w
theorem At.new (w : World) : Calls Try.prog 21 #[] w fun e w' => ∃ b, e = .returned (.pointer (some ⟨b, 0, none⟩)) ∧ At w b Med.new 0 w' :=
  (Med.New_calls w).mono fun e w' ⟨b, he, h1, h2⟩ => ⟨b, he, h1, h2⟩
section
variable {w0 w : World} {b : Nat} {M : Med} {n : Nat}
theorem At.after (h : At w0 b M n w) {w' : World} (k : Below w.heap.size w w') : At w0 b M n w' := ⟨h.med.below k, h.below.trans (k.mono h.below.size)⟩
theorem At.mono (h : At w0 b M n w) {n' : Nat} (k : n ≤ n') : At w0 b M n' w := ⟨h.med.mono k, h.below⟩
theorem At.left (h : At w0 b M n w) {M' : Med} {n' : Nat} {w' : World} (k : Save.Left (fun i => w0.heap.size ≤ i) b w M' n' w') : At w0 b M' n' w' := by
  obtain ⟨own', m, hj, fr⟩ := k
  have hs := h.below.size
  refine ⟨m.weaken fun i hi ho => ?_, h.below.trans (fr.below hs fun i hi => hi)⟩
  rcases hj i ho with h | h <;> omega
theorem At.framed (h : At w0 b M n w) {M' : Med} {n' : Nat} {w' : World} (m : IsMed w' (fun i => w0.heap.size ≤ i) b M' n') (fr : Med.Frame (fun i => w0.heap.size ≤ i) w w') : At w0 b M' n' w' :=
  ⟨m, h.below.trans (fr.below h.below.size fun i hi => hi)⟩
theorem At.load_calls (h : At w0 b M n w) : Calls Try.prog 27 #[.pointer (some ⟨b, 0, none⟩)] w fun e w' => e = .returned (.tuple #[.int .i64 (newest M).1, .string ⟨(newest M).2.1.toArray⟩, .int .i64 (newest M).2.2]) ∧ At w0 b M n w' :=
  (Load.load_calls h.med).mono fun e w' ⟨he, hb⟩ => ⟨he, h.after hb⟩
theorem At.save_calls (h : At w0 b M n w) (x : Int) (d : ByteArray) (hd : d.size ≤ 1000000000000000) (hn : n < 4611686018427000000) :
    Calls Try.prog 24 #[.pointer (some ⟨b, 0, none⟩), .int .i64 x, .string d] w fun e w' => e = .returned (.int .i64 (save M x d.data.toList).2) ∧ At w0 b (save M x d.data.toList).1 (n + 3 * scnt d.size) w' :=
  (Save.save_calls h.med x d hd hn).mono fun e w' ⟨he, hl⟩ => ⟨he, h.left hl⟩
theorem At.arm_calls (h : At w0 b M n w) (x : Int) (hx : x ≤ 9223372036854775807) : Calls Try.prog 23 #[.pointer (some ⟨b, 0, none⟩), .int .i64 x] w fun e w' => e = .returned (.tuple #[]) ∧ At w0 b (M.arm x) n w' :=
  (Med.arm_calls h.med x hx).mono fun e w' ⟨he, hm, hf⟩ => ⟨he, h.framed hm hf⟩
theorem At.on_calls (h : At w0 b M n w) : Calls Try.prog 26 #[.pointer (some ⟨b, 0, none⟩)] w fun e w' => e = .returned (.tuple #[]) ∧ At w0 b M.on n w' :=
  (Med.on_calls h.med).mono fun e w' ⟨he, hm, hf⟩ => ⟨he, h.framed hm hf⟩
theorem At.writes_calls (h : At w0 b M n w) : Calls Try.prog 37 #[.pointer (some ⟨b, 0, none⟩)] w fun e w' => e = .returned (.int .i64 M.writes) ∧ w' = w := Med.writes_calls h.med
end
theorem sectors_calls (s : Nat) (hs : s ≤ 1000000000000000) (w : World) : Calls Try.prog 25 #[.int .i64 (s : Int)] w fun e w' => e = .returned (.int .i64 (scnt s : Int)) ∧ Below w.heap.size w w' :=
  slots_Sectors.calls _ _ w (Sectors_at s hs)
set_option maxHeartbeats 16000000 in
set_option maxRecDepth 100000 in
/-- The chapter's example. -/
theorem awake_calls (w : World) : Calls Try.prog 28 #[] w fun e w' => e = .returned (.bool true) ∧ Below w.heap.size w w' := by
  have I0 := Inv.new
  have L0 := I0.loads0
  obtain ⟨s1, I1', I1⟩ := I0.saves (D := [97]) (by omega) (by simp)
  obtain ⟨s2, I2', I2⟩ := I1.saves (D := [98]) (by omega) (by simp)
  have hfl : (fillL 100 0).length = 100 := by rw [Fill.fillL_len]; rfl
  have I3 := I2.saves_armed (D := fillL 100 0) 1 (by omega) (by omega)
  rw [hfl] at I3
  have I3' : (save ((save (save Med.new (0 + 1) [97]).1 (0 + 1 + 1) [98]).1.arm 1) (0 + 1 + 1 + 1) (fillL 100 0)).2 = 40 ∧ Inv (save ((save (save Med.new (0 + 1) [97]).1 (0 + 1 + 1) [98]).1.arm 1) (0 + 1 + 1 + 1) (fillL 100 0)).1.on (0 + 1 + 1) [98] := by
    rcases I3 with ⟨_, h, _⟩ | ⟨a, _, c⟩
    · exact absurd h (by decide)
    · exact ⟨a, c⟩
  obtain ⟨s3, I3⟩ := I3'
  have L3 := I3.loads (by omega)
  obtain ⟨M1, hM1⟩ : ∃ X, X = (save Med.new (0 + 1) [97]).1 := ⟨_, rfl⟩
  rw [← hM1] at s2 s3 L3
  obtain ⟨M2, hM2⟩ : ∃ X, X = (save M1 (0 + 1 + 1) [98]).1 := ⟨_, rfl⟩
  rw [← hM2] at s3 L3
  obtain ⟨M3, hM3⟩ : ∃ X, X = (save (M2.arm 1) (0 + 1 + 1 + 1) (fillL 100 0)).1 := ⟨_, rfl⟩
  rw [← hM3] at L3
  have F0 := Aside0.mk L0
  have F1 : Aside0 (save Med.new 1 [97] = (M1, 0)) := ⟨Prod.ext hM1.symm s1⟩
  have F2 : Aside0 (save M1 2 [98] = (M2, 0)) := ⟨Prod.ext hM2.symm s2⟩
  have F3 : Aside0 (save (M2.arm 1) 3 (fillL 100 0) = (M3, 40)) := ⟨Prod.ext hM3.symm s3⟩
  have F4 : Aside0 (newest M3.on = (2, [98], 0)) := ⟨L3⟩
  clear I0 L0 s1 I1' I1 s2 I2' I2 s3 I3 L3 hM1 hM2 hM3
  have c1 : ∀ {b n W}, At w b Med.new n W → Calls Try.prog 27 #[.pointer (some ⟨b, 0, none⟩)] W fun e w' => e = .returned (.tuple #[.int .i64 0, .string ⟨#[]⟩, .int .i64 41]) ∧ At w b Med.new n w' := fun h => by
    have := h.load_calls
    rw [F0.out] at this
    exact this
  have c2 : ∀ {b W}, At w b Med.new 0 W → Calls Try.prog 24 #[.pointer (some ⟨b, 0, none⟩), .int .i64 1, .string ⟨#[97]⟩] W fun e w' => e = .returned (.int .i64 0) ∧ At w b M1 3 w' := fun h => by
    have := h.save_calls 1 ⟨#[97]⟩ (by decide) (by decide)
    rw [show (⟨#[97]⟩ : ByteArray).data.toList = [97] from rfl, F1.out] at this
    exact this
  have c3 : ∀ {b W}, At w b M1 3 W → Calls Try.prog 24 #[.pointer (some ⟨b, 0, none⟩), .int .i64 2, .string ⟨#[98]⟩] W fun e w' => e = .returned (.int .i64 0) ∧ At w b M2 6 w' := fun h => by
    have := h.save_calls 2 ⟨#[98]⟩ (by decide) (by decide)
    rw [show (⟨#[98]⟩ : ByteArray).data.toList = [98] from rfl, F2.out] at this
    exact this
  have c4 : ∀ {b W}, At w b (M2.arm 1) 6 W → Calls Try.prog 24 #[.pointer (some ⟨b, 0, none⟩), .int .i64 3, .string ⟨(fillL 100 0).toArray⟩] W fun e w' => e = .returned (.int .i64 40) ∧ At w b M3 12 w' := fun h => by
    have := h.save_calls 3 ⟨(fillL 100 0).toArray⟩ (by rw [size_mk, hfl]; omega) (by decide)
    rw [show (⟨(fillL 100 0).toArray⟩ : ByteArray).data.toList = fillL 100 0 from by simp, F3.out, size_mk, hfl] at this
    exact this
  have c5 : ∀ {b n W}, At w b M3.on n W → Calls Try.prog 27 #[.pointer (some ⟨b, 0, none⟩)] W fun e w' => e = .returned (.tuple #[.int .i64 2, .string ⟨#[98]⟩, .int .i64 0]) ∧ At w b M3.on n w' := fun h => by
    have := h.load_calls
    rw [F4.out] at this
    exact this
  have HC := Aside0.mk (And.intro @c1 (And.intro @c2 (And.intro @c3 (And.intro @c4 @c5))))
  clear c1 c2 c3 c4 c5 hfl
  go_enter Try.func28, Try.ntmps28
  go_wp2_with (fail)
  refine (At.new w).mono ?_
  rintro e w1 ⟨b, rfl, h1⟩
  have H1 := Aside0.mk h1
  clear h1
  go_wp2_with (fail)
  refine (HC.out.1 H1.out).mono ?_
  rintro e w2 ⟨rfl, h2⟩
  have H2 := Aside0.mk h2
  clear h2 H1
  go_wp2_with (fail)
  refine (HC.out.2.1 H2.out).mono ?_
  rintro e w3 ⟨rfl, h3⟩
  have H3 := Aside0.mk h3
  clear h3 H2
  go_wp2_with (fail)
  refine (HC.out.2.2.1 H3.out).mono ?_
  rintro e w4 ⟨rfl, h4⟩
  have H4 := Aside0.mk h4
  clear h4 H3
  go_wp2_with (fail)
  refine (H4.out.arm_calls 1 (by decide)).mono ?_
  rintro e w5 ⟨rfl, h5⟩
  have H5 := Aside0.mk h5
  clear h5 H4
  go_wp2_with (fail)
  refine (Fill.fill_any 100 0 _).mono ?_
  rintro e w6 ⟨rfl, h6⟩
  have H6 := Aside0.mk (H5.out.after h6)
  clear h6 H5
  go_wp2_with (fail)
  refine (HC.out.2.2.2.1 H6.out).mono ?_
  rintro e w7 ⟨rfl, h7⟩
  have H7 := Aside0.mk h7
  clear h7 H6
  go_wp2_with (fail)
  refine (H7.out.on_calls).mono ?_
  rintro e w8 ⟨rfl, h8⟩
  have H8 := Aside0.mk h8
  clear h8 H7
  go_wp2_with (fail)
  refine (HC.out.2.2.2.2 H8.out).mono ?_
  rintro e w9 ⟨rfl, h9⟩
  have H9 := Aside0.mk h9
  clear h9 H8
  go_wp2_with (fail)
  refine (sectors_calls 0 (by decide) _).mono ?_
  rintro e w10 ⟨rfl, h10⟩
  have H10 := Aside0.mk (H9.out.after h10)
  clear h10 H9
  go_wp2_with (fail)
  refine (sectors_calls 54 (by decide) _).mono ?_
  rintro e w11 ⟨rfl, h11⟩
  have H11 := Aside0.mk (H10.out.after h11)
  clear h11 H10
  go_wp2_with (fail)
  go_ret
  exact ⟨rfl, H11.out.below⟩
end Go.Proofs.Ytojehachhfcfaaa.At
