/- The reference's reader, walked: it reads as the wire does. -/
import Derived.Test.YtgdoodeibcfcjaaCNts
import Derived.Test.YtgdoodeibcfcjaaDRef
set_option linter.unusedVariables false
set_option linter.unusedSimpArgs false
namespace Go.Proofs.Ytgdoodeibcfcjaa.Wire
open Go.RowKit Go.Proofs.Ytgdoodeibcfcjaa.NumsPure Go.Proofs.Ytgdoodeibcfcjaa.CPure Go.Proofs.Ytgdoodeibcfcjaa.Own
open Go.Proofs.Ytgdoodeibcfcjaa.Put (digits digits_lt digits_ge)
open Go.Proofs.Ytgdoodeibcfcjaa.BldS (Keeps)
/-- The reader. -/
def Rr (rb : Nat) (s : Rd) (w : World) : Prop := Cs rb 67 [.string ⟨s.D.toArray⟩, .bool s.bad] w
theorem Rr.cells {rb : Nat} {s : Rd} {w : World} (h : Rr rb s w) : w.cell? ⟨rb, 0, none⟩ = some (.string ⟨s.D.toArray⟩) ∧ w.cell? ⟨rb, 1, none⟩ = some (.bool s.bad) ∧ ∀ j, w.frozen? ⟨rb, j, none⟩ = false := ⟨Cs.cell h 0, Cs.cell h 1, fun j => Cs.frozen h j⟩
theorem Rr.below {rb : Nat} {s : Rd} {w w' : World} (h : Rr rb s w) (k : Below w.heap.size w w') : Rr rb s w' := Cs.keep h (k.block rb (Cs.lt h))
theorem Rr.data {rb : Nat} {s : Rd} {w : World} (h : Rr rb s w) (D : List UInt8) : Rr rb ⟨D, s.bad⟩ (w.setCell ⟨rb, 0, none⟩ (.string ⟨D.toArray⟩)) := Cs.set h 0 _
theorem Rr.isBad {rb : Nat} {s : Rd} {w : World} (h : Rr rb s w) : Rr rb s.fail (w.setCell ⟨rb, 1, none⟩ (.bool true)) := Cs.set h 1 _
theorem unfold_zero : unfoldN 0 = 0 := by decide
theorem unfold_even {n : Nat} (h : n % 2 = 0) : unfoldN n = ((n / 2 : Nat) : Int) := by unfold unfoldN; rw [if_neg (by omega)]
theorem unfold_odd {n : Nat} (h : ¬n % 2 = 0) : unfoldN n = -((n / 2 : Nat) : Int) - 1 := by unfold unfoldN; rw [if_pos h]
set_option maxHeartbeats 4000000 in
set_option maxRecDepth 100000 in
theorem num_r {rb : Nat} {s : Rd} {w : World} (h : Rr rb s w) (hl : s.D.length ≤ 1000000000000) :
    Calls Try.prog 25 #[.pointer (some ⟨rb, 0, none⟩)] w fun e w' => e = .returned (.int .i64 (unfoldN (takeN s).1)) ∧ Rr rb (takeN s).2 w' ∧ Fr (fun i => i = rb) w w' := by
  have H := Aside0.mk h
  obtain ⟨c0, c1, cf⟩ := h.cells
  clear h
  have ct := rtake_any s.D hl
  obtain ⟨D, bad⟩ := s
  simp only at c0 c1 ct
  cases hT : T true 9 D with
  | none =>
    rw [hT] at ct
    simp only [takeA] at ct
    have HR : Aside0 (takeN ⟨D, bad⟩ = (0, ⟨D, true⟩)) := ⟨by unfold takeN; simp only; rw [hT]; cases bad <;> rfl⟩
    clear hT
    cases bad
    all_goals
      go_enter Try.func25, Try.ntmps25
      go_wp2_with (go_at_call 82; refine (ct _).mono ?_; rintro e wA ⟨rfl, hk⟩; have HA := Aside0.mk (H.out.below hk); have HK := Aside0.mk hk; clear hk; obtain ⟨d0, d1, df⟩ := HA.out.cells)
      go_ret
      rw [HR.out]
      exact ⟨by show _ = Ending.returned (.int .i64 (unfoldN 0)); rw [unfold_zero]; rfl, HA.out.isBad, (Fr.of_below HK.out).set _ _ (.inl rfl)⟩
  | some p =>
    obtain ⟨n, r⟩ := p
    rw [hT] at ct
    simp only [takeA] at ct
    have hn : n < 9223372036854775808 := by have := T_lt hT; rw [len9] at this; exact this
    cases bad
    · have HR : Aside0 (takeN ⟨D, false⟩ = (n, ⟨r, false⟩)) := ⟨by unfold takeN; simp only; rw [hT]; rfl⟩
      clear hT
      by_cases h2 : n % 2 = 0
      · have HU := Aside0.mk (unfold_even h2)
        have h2b : ((n : Int) % 2 == 0) = true := by rw [beq_iff_eq]; omega
        clear h2
        go_enter Try.func25, Try.ntmps25
        go_wp2_with (go_at_call 82; refine (ct _).mono ?_; rintro e wA ⟨rfl, hk⟩; have HA := Aside0.mk (H.out.below hk); have HK := Aside0.mk hk; clear hk; obtain ⟨d0, d1, df⟩ := HA.out.cells)
        go_ret
        rw [HR.out]
        exact ⟨by rw [HU.out]; rfl, HA.out.data r, (Fr.of_below HK.out).set _ _ (.inl rfl)⟩
      · have HU := Aside0.mk (unfold_odd h2)
        have h2b : ((n : Int) % 2 == 0) = false := by rw [beq_eq_false_iff_ne]; omega
        clear h2
        go_enter Try.func25, Try.ntmps25
        go_wp2_with (go_at_call 82; refine (ct _).mono ?_; rintro e wA ⟨rfl, hk⟩; have HA := Aside0.mk (H.out.below hk); have HK := Aside0.mk hk; clear hk; obtain ⟨d0, d1, df⟩ := HA.out.cells)
        go_ret
        rw [HR.out]
        exact ⟨by rw [HU.out]; rfl, HA.out.data r, (Fr.of_below HK.out).set _ _ (.inl rfl)⟩
    · have HR : Aside0 (takeN ⟨D, true⟩ = (0, ⟨D, true⟩)) := ⟨by unfold takeN; rfl⟩
      clear hT
      go_enter Try.func25, Try.ntmps25
      go_wp2_with (go_at_call 82; refine (ct _).mono ?_; rintro e wA ⟨rfl, hk⟩; have HA := Aside0.mk (H.out.below hk); have HK := Aside0.mk hk; clear hk; obtain ⟨d0, d1, df⟩ := HA.out.cells)
      go_ret
      rw [HR.out]
      exact ⟨by show _ = Ending.returned (.int .i64 (unfoldN 0)); rw [unfold_zero]; rfl, HA.out.isBad, (Fr.of_below HK.out).set _ _ (.inl rfl)⟩
/-! ### text, truth, count -/
set_option maxHeartbeats 4000000 in
set_option maxRecDepth 100000 in
theorem text_r {rb : Nat} {s : Rd} {w : World} (h : Rr rb s w) (hl : s.D.length ≤ 1000000000000) :
    Calls Try.prog 24 #[.pointer (some ⟨rb, 0, none⟩)] w fun e w' => e = .returned (rdT s (.string ⟨#[]⟩)).2 ∧ Rr rb (rdT s (.string ⟨#[]⟩)).1 w' ∧ Fr (fun i => i = rb) w w' := by
  have H := Aside0.mk h
  obtain ⟨c0, c1, cf⟩ := h.cells
  clear h
  have ct := rtakeText_any s.D hl
  cases hok : okT s with
  | some ab =>
    obtain ⟨a, b⟩ := ab
    obtain ⟨hb, hA⟩ := textA_ok hok
    rw [hb] at c1
    rw [hA] at ct
    have HR : Aside0 (rdT s (.string ⟨#[]⟩) = (⟨b, false⟩, .string ⟨a.toArray⟩)) := ⟨rdT_ok hok _⟩
    have HB := Aside0.mk hb
    clear hok hb hA
    go_enter Try.func24, Try.ntmps24
    go_wp2_with (go_at_call 83; refine (ct _).mono ?_; rintro e wA ⟨rfl, hk⟩; have HA := Aside0.mk (H.out.below hk); have HK := Aside0.mk hk; clear hk; obtain ⟨d0, d1, df⟩ := HA.out.cells; rw [HB.out] at d1)
    go_ret
    rw [HR.out]
    exact ⟨rfl, by have := HA.out.data b; rw [HB.out] at this; exact this, (Fr.of_below HK.out).set _ _ (.inl rfl)⟩
  | none =>
    have HR : Aside0 (rdT s (.string ⟨#[]⟩) = (s.fail, .string ⟨#[]⟩)) := ⟨rdT_no hok _⟩
    have hcase := textA_no hok
    clear hok
    rcases hcase with hb | ⟨hb, hA⟩
    · rw [hb] at c1
      have HB := Aside0.mk hb
      generalize textA (NumsPure.T true 9 s.D) = tA at ct
      obtain ⟨t1, t2, t3⟩ := tA
      clear hb
      go_enter Try.func24, Try.ntmps24
      go_wp2_with (go_at_call 83; refine (ct _).mono ?_; rintro e wA ⟨rfl, hk⟩; have HA := Aside0.mk (H.out.below hk); have HK := Aside0.mk hk; clear hk; obtain ⟨d0, d1, df⟩ := HA.out.cells; rw [HB.out] at d1)
      go_ret
      rw [HR.out]
      exact ⟨rfl, HA.out.isBad, (Fr.of_below HK.out).set _ _ (.inl rfl)⟩
    · rw [hb] at c1
      rw [hA] at ct
      have HB := Aside0.mk hb
      clear hb hA
      go_enter Try.func24, Try.ntmps24
      go_wp2_with (go_at_call 83; refine (ct _).mono ?_; rintro e wA ⟨rfl, hk⟩; have HA := Aside0.mk (H.out.below hk); have HK := Aside0.mk hk; clear hk; obtain ⟨d0, d1, df⟩ := HA.out.cells; rw [HB.out] at d1)
      go_ret
      rw [HR.out]
      exact ⟨rfl, HA.out.isBad, (Fr.of_below HK.out).set _ _ (.inl rfl)⟩
set_option maxHeartbeats 4000000 in
set_option maxRecDepth 100000 in
theorem truth_r {rb : Nat} {s : Rd} {w : World} (h : Rr rb s w) :
    Calls Try.prog 26 #[.pointer (some ⟨rb, 0, none⟩)] w fun e w' => e = .returned (rdB s (.bool false)).2 ∧ Rr rb (rdB s (.bool false)).1 w' ∧ Fr (fun i => i = rb) w w' := by
  have H := Aside0.mk h
  obtain ⟨c0, c1, cf⟩ := h.cells
  clear h
  obtain ⟨D, bad⟩ := s
  simp only at c0 c1
  cases bad with
  | true =>
    have HR : Aside0 (rdB ⟨D, true⟩ (.bool false) = (⟨D, true⟩, .bool false)) := ⟨rfl⟩
    go_enter Try.func26, Try.ntmps26
    go_wp2
    go_ret
    rw [HR.out]
    exact ⟨rfl, H.out.isBad, (Fr.refl _ _).set _ _ (.inl rfl)⟩
  | false =>
    cases D with
    | nil =>
      have HR : Aside0 (rdB ⟨[], false⟩ (.bool false) = (⟨[], true⟩, .bool false)) := ⟨rfl⟩
      have hn0 : (⟨([] : List UInt8).toArray⟩ : ByteArray).toList.isEmpty = true := by rw [ByteArray.toList_eq]; rfl
      obtain ⟨S, hS⟩ : ∃ S : ByteArray, S = ⟨([] : List UInt8).toArray⟩ := ⟨_, rfl⟩
      rw [← hS] at c0 hn0
      clear hS
      go_enter Try.func26, Try.ntmps26
      go_wp2
      go_ret
      rw [HR.out]
      exact ⟨rfl, H.out.isBad, (Fr.refl _ _).set _ _ (.inl rfl)⟩
    | cons c r =>
      have hix := index0 c r
      have hsl := slice1 c r
      have hne : (⟨(c :: r).toArray⟩ : ByteArray).size ≠ 0 := by rw [size_mk]; simp
      have hn0 : (⟨(c :: r).toArray⟩ : ByteArray).toList.isEmpty = false := by rw [ByteArray.toList_eq]; simp
      have hn1' : (1 : Int) ≤ (⟨(c :: r).toArray⟩ : ByteArray).size := by rw [size_mk]; simp; omega
      obtain ⟨S, hS⟩ : ∃ S : ByteArray, S = ⟨(c :: r).toArray⟩ := ⟨_, rfl⟩
      obtain ⟨S2, hS2⟩ : ∃ S2 : ByteArray, S2 = ⟨r.toArray⟩ := ⟨_, rfl⟩
      rw [← hS] at c0 hix hsl hne hn0 hn1'
      rw [← hS2] at hsl
      have HS := Aside0.mk (And.intro hS hS2)
      clear hS hS2
      by_cases hc : c.toNat ≤ 1
      · have hc1 : (c.toNat : Int) ≤ 1 := by omega
        obtain ⟨b, hcb⟩ : ∃ b, ((c.toNat : Int) == 1) = b := ⟨_, rfl⟩
        have HR : Aside0 (rdB ⟨c :: r, false⟩ (.bool false) = (⟨r, false⟩, .bool b)) := ⟨by
          simp only [rdB, Bool.false_eq_true, if_false]
          rw [if_pos hc]
          have : (c.toNat == 1) = b := by rw [← hcb, Bool.eq_iff_iff]; simp only [beq_iff_eq]; omega
          rw [this]⟩
        clear hc
        go_enter Try.func26, Try.ntmps26
        go_wp2
        go_ret
        rw [HR.out]
        exact ⟨rfl, by rw [HS.out.2]; exact H.out.data r, (Fr.refl _ _).set _ _ (.inl rfl)⟩
      · have hc1 : (1 : Int) < (c.toNat : Int) := by omega
        have HR : Aside0 (rdB ⟨c :: r, false⟩ (.bool false) = (⟨c :: r, true⟩, .bool false)) := ⟨by
          simp only [rdB, Bool.false_eq_true, if_false]
          rw [if_neg hc]; rfl⟩
        clear hc
        go_enter Try.func26, Try.ntmps26
        go_wp2
        go_ret
        rw [HR.out]
        exact ⟨rfl, H.out.isBad, (Fr.refl _ _).set _ _ (.inl rfl)⟩
def rcnt (s : Rd) : Nat × Rd := if s.bad then (0, s) else match T true 9 s.D with
  | none => (0, s.fail)
  | some (n, r) => if n ≤ r.length then (n, ⟨r, false⟩) else (0, s.fail)
set_option maxHeartbeats 4000000 in
set_option maxRecDepth 100000 in
theorem count_r {rb : Nat} {s : Rd} {w : World} (h : Rr rb s w) (hl : s.D.length ≤ 1000000000000) :
    Calls Try.prog 23 #[.pointer (some ⟨rb, 0, none⟩)] w fun e w' => e = .returned (.int .i64 ((rcnt s).1 : Int)) ∧ Rr rb (rcnt s).2 w' ∧ Fr (fun i => i = rb) w w' := by
  have H := Aside0.mk h
  obtain ⟨c0, c1, cf⟩ := h.cells
  clear h
  have ct := rtake_any s.D hl
  obtain ⟨D, bad⟩ := s
  simp only at c0 c1 ct
  cases bad with
  | true =>
    have HR : Aside0 (rcnt ⟨D, true⟩ = (0, ⟨D, true⟩)) := ⟨rfl⟩
    generalize takeA (NumsPure.T true 9 D) = tA at ct
    obtain ⟨t1, t2, t3⟩ := tA
    go_enter Try.func23, Try.ntmps23
    go_wp2_with (go_at_call 82; refine (ct _).mono ?_; rintro e wA ⟨rfl, hk⟩; have HA := Aside0.mk (H.out.below hk); have HK := Aside0.mk hk; clear hk; obtain ⟨d0, d1, df⟩ := HA.out.cells)
    go_ret
    rw [HR.out]
    exact ⟨rfl, HA.out.isBad, (Fr.of_below HK.out).set _ _ (.inl rfl)⟩
  | false =>
    cases hT : T true 9 D with
    | none =>
      rw [hT] at ct
      simp only [takeA] at ct
      have HR : Aside0 (rcnt ⟨D, false⟩ = (0, ⟨D, true⟩)) := ⟨by unfold rcnt; simp only [Bool.false_eq_true, if_false]; rw [hT]; rfl⟩
      clear hT
      go_enter Try.func23, Try.ntmps23
      go_wp2_with (go_at_call 82; refine (ct _).mono ?_; rintro e wA ⟨rfl, hk⟩; have HA := Aside0.mk (H.out.below hk); have HK := Aside0.mk hk; clear hk; obtain ⟨d0, d1, df⟩ := HA.out.cells)
      go_ret
      rw [HR.out]
      exact ⟨rfl, HA.out.isBad, (Fr.of_below HK.out).set _ _ (.inl rfl)⟩
    | some p =>
      obtain ⟨n, r⟩ := p
      rw [hT] at ct
      simp only [takeA] at ct
      have hn : n < 9223372036854775808 := by have := T_lt hT; rw [len9] at this; exact this
      have HRN : Aside0 (rcnt ⟨D, false⟩ = if n ≤ r.length then (n, ⟨r, false⟩) else (0, ⟨D, true⟩)) := ⟨by unfold rcnt; simp only [Bool.false_eq_true, if_false]; rw [hT]; rfl⟩
      clear hT
      obtain ⟨S2, hS2⟩ : ∃ S2 : ByteArray, S2 = ⟨r.toArray⟩ := ⟨_, rfl⟩
      have hsz : S2.size = r.length := by rw [hS2]; exact size_mk r
      rw [← hS2] at ct
      have HS2 := Aside0.mk hS2
      clear hS2
      by_cases hnr : n ≤ r.length
      · have HR : Aside0 (rcnt ⟨D, false⟩ = (n, ⟨r, false⟩)) := ⟨by rw [HRN.out, if_pos hnr]⟩
        have hg : ¬ ((r.length : Int) < (n : Int)) := by omega
        clear hnr
        go_enter Try.func23, Try.ntmps23
        go_wp2_with (go_at_call 82; refine (ct _).mono ?_; rintro e wA ⟨rfl, hk⟩; have HA := Aside0.mk (H.out.below hk); have HK := Aside0.mk hk; clear hk; obtain ⟨d0, d1, df⟩ := HA.out.cells)
        go_ret
        rw [HR.out]
        exact ⟨rfl, by rw [HS2.out]; exact HA.out.data r, (Fr.of_below HK.out).set _ _ (.inl rfl)⟩
      · have HR : Aside0 (rcnt ⟨D, false⟩ = (0, ⟨D, true⟩)) := ⟨by rw [HRN.out, if_neg hnr]⟩
        have hg : (r.length : Int) < (n : Int) := by omega
        clear hnr
        go_enter Try.func23, Try.ntmps23
        go_wp2_with (go_at_call 82; refine (ct _).mono ?_; rintro e wA ⟨rfl, hk⟩; have HA := Aside0.mk (H.out.below hk); have HK := Aside0.mk hk; clear hk; obtain ⟨d0, d1, df⟩ := HA.out.cells)
        go_ret
        rw [HR.out]
        exact ⟨rfl, HA.out.isBad, (Fr.of_below HK.out).set _ _ (.inl rfl)⟩
/-! ### The reader, where bad bytes may be any -/
def RW (rb : Nat) (s : Rd) (w : World) : Prop := ∃ D' : List UInt8, D'.length ≤ 100000000 ∧ (s.bad = false → D' = s.D) ∧ Rr rb ⟨D', s.bad⟩ w
theorem RW.below {rb : Nat} {s : Rd} {w w' : World} (h : RW rb s w) (k : Below w.heap.size w w') : RW rb s w' := by
  obtain ⟨D', h1, h2, h3⟩ := h
  exact ⟨D', h1, h2, h3.below k⟩
theorem RW.lt {rb : Nat} {s : Rd} {w : World} (h : RW rb s w) : rb < w.heap.size := by
  obtain ⟨D', h1, h2, h3⟩ := h
  exact Cs.lt h3
theorem RW.other {rb : Nat} {s : Rd} {w : World} (h : RW rb s w) {w' : World} (k : w'.heap[rb]? = w.heap[rb]?) : RW rb s w' := by
  obtain ⟨D', h1, h2, h3⟩ := h
  exact ⟨D', h1, h2, Cs.keep h3 k⟩
theorem RW.of {rb : Nat} {s : Rd} {w : World} (h : Rr rb s w) (hl : s.D.length ≤ 100000000) : RW rb s w := ⟨s.D, hl, fun _ => rfl, h⟩
theorem RW.badCell {rb : Nat} {s : Rd} {w : World} (h : RW rb s w) : w.cell? ⟨rb, 1, none⟩ = some (.bool s.bad) ∧ ∀ j, w.frozen? ⟨rb, j, none⟩ = false := by
  obtain ⟨D', h1, h2, h3⟩ := h
  exact ⟨h3.cells.2.1, h3.cells.2.2⟩
theorem rd_weak (k : K) (s : Rd) (D' : List UInt8) (h : s.bad = false → D' = s.D) (v : Value) : (rd1 k ⟨D', s.bad⟩ v).2 = (rd1 k s v).2 ∧ (rd1 k ⟨D', s.bad⟩ v).1.bad = (rd1 k s v).1.bad ∧ ((rd1 k s v).1.bad = false → (rd1 k ⟨D', s.bad⟩ v).1.D = (rd1 k s v).1.D) := by
  cases hb : s.bad with
  | true =>
    have e1 := rd1_bad k ⟨D', true⟩ v rfl
    have e2 := rd1_bad k s v hb
    refine ⟨?_, by rw [e1, e2, hb], fun hf => by rw [e2, hb] at hf; cases hf⟩
    cases k
    · show (rdT _ v).2 = (rdT s v).2
      unfold rdT; rw [if_pos hb, if_pos rfl]
    · show (rdN _).2 = (rdN s).2
      unfold rdN takeN; rw [if_pos hb, if_pos rfl]
    · show (rdB _ v).2 = (rdB s v).2
      unfold rdB; rw [if_pos hb, if_pos rfl]
  | false =>
    have e : (⟨D', false⟩ : Rd) = s := by
      obtain ⟨D, b⟩ := s
      simp only at hb h
      subst hb
      rw [h rfl]
    rw [e]
    exact ⟨rfl, rfl, fun _ => rfl⟩
theorem RW.of_weak {rb : Nat} {k : K} {s : Rd} {D' : List UInt8} (hl : D'.length ≤ 100000000) (h : s.bad = false → D' = s.D) {v : Value} {w : World} (hr : Rr rb (rd1 k ⟨D', s.bad⟩ v).1 w) : RW rb (rd1 k s v).1 w := by
  obtain ⟨h1, h2, h3⟩ := rd_weak k s D' h v
  refine ⟨(rd1 k ⟨D', s.bad⟩ v).1.D, Nat.le_trans (rd1_len _ _ _) hl, h3, ?_⟩
  rw [← h2]
  exact hr
/-- One of the reader's own functions: it reads a thing of one cell. -/
def Reads1 (fn : Nat) (k : K) : Prop := ∀ (rb : Nat) (s : Rd) (w : World), RW rb s w → Calls Try.prog fn #[.pointer (some ⟨rb, 0, none⟩)] w fun e w' => e = .returned (rd1 k s (zeroV k)).2 ∧ RW rb (rd1 k s (zeroV k)).1 w' ∧ Fr (fun i => i = rb) w w'
theorem num_1 : Reads1 25 .n := by
  intro rb s w h
  obtain ⟨D', hl, hd, hr⟩ := h
  refine (num_r hr (Nat.le_trans hl (by decide))).mono ?_
  rintro e w' ⟨rfl, h1, h2⟩
  exact ⟨congrArg Ending.returned (rd_weak .n s D' hd (zeroV .n)).1, RW.of_weak (k := .n) (v := zeroV .n) hl hd h1, h2⟩
theorem text_1 : Reads1 24 .t := by
  intro rb s w h
  obtain ⟨D', hl, hd, hr⟩ := h
  refine (text_r hr (Nat.le_trans hl (by decide))).mono ?_
  rintro e w' ⟨rfl, h1, h2⟩
  exact ⟨congrArg Ending.returned (rd_weak .t s D' hd (zeroV .t)).1, RW.of_weak (k := .t) (v := zeroV .t) hl hd h1, h2⟩
theorem truth_1 : Reads1 26 .b := by
  intro rb s w h
  obtain ⟨D', hl, hd, hr⟩ := h
  refine (truth_r hr).mono ?_
  rintro e w' ⟨rfl, h1, h2⟩
  exact ⟨congrArg Ending.returned (rd_weak .b s D' hd (zeroV .b)).1, RW.of_weak (k := .b) (v := zeroV .b) hl hd h1, h2⟩
/-- Behind a list's count: how many things, and the wire. -/
theorem count_1 {rb : Nat} {s : Rd} {w : World} (h : RW rb s w) (hl : s.D.length ≤ 100000000) : Calls Try.prog 23 #[.pointer (some ⟨rb, 0, none⟩)] w fun e w' => ∃ (n : Nat) (t : Rd), e = .returned (.int .i64 (n : Int)) ∧ n ≤ 100000000 ∧ RW rb t w' ∧ t.D.length ≤ 100000000 ∧ Fr (fun i => i = rb) w w' ∧
    ∀ ks, (rdRows ks n t).2 = (rdList ks s).2 ∧ (rdRows ks n t).1.bad = (rdList ks s).1.bad ∧ ((rdList ks s).1.bad = false → (rdRows ks n t).1.D = (rdList ks s).1.D) := by
  obtain ⟨D', hl', hd, hr⟩ := h
  refine (count_r hr (Nat.le_trans hl' (by decide))).mono ?_
  rintro e w' ⟨rfl, h1, h2⟩
  cases hb : s.bad with
  | true =>
    have e1 : rcnt ⟨D', true⟩ = (0, ⟨D', true⟩) := rfl
    rw [hb] at h1
    rw [e1] at h1 ⊢
    refine ⟨0, ⟨D', true⟩, rfl, by decide, RW.of h1 hl', hl', h2, fun ks => ?_⟩
    rw [list_bad ks s hb]
    exact ⟨rfl, hb.symm, fun h => by rw [hb] at h; cases h⟩
  | false =>
    have e : (⟨D', false⟩ : Rd) = s := by
      obtain ⟨D, b⟩ := s
      simp only at hb hd
      subst hb
      rw [hd rfl]
    rw [hb] at h1
    rw [e] at h1 ⊢
    cases hT : T true 9 s.D with
    | none =>
      have e1 : rcnt s = (0, s.fail) := by unfold rcnt; rw [if_neg (by rw [hb]; simp), hT]
      have e2 : counted s = (0, s.fail) := by unfold counted takeN; rw [if_neg (by rw [hb]; simp), hT]; simp
      rw [e1] at h1 ⊢
      refine ⟨0, s.fail, rfl, by decide, RW.of h1 hl, hl, h2, fun ks => ?_⟩
      unfold rdList; rw [e2]
      exact ⟨rfl, rfl, fun _ => rfl⟩
    | some p =>
      obtain ⟨n, r⟩ := p
      have hrl : r.length ≤ 100000000 := Nat.le_trans (T_len hT) hl
      by_cases hnr : n ≤ r.length
      · have e1 : rcnt s = (n, ⟨r, false⟩) := by unfold rcnt; rw [if_neg (by rw [hb]; simp), hT]; simp only; rw [if_pos hnr]
        have e2 : counted s = (n, ⟨r, false⟩) := by unfold counted takeN; rw [if_neg (by rw [hb]; simp), hT]; simp only; rw [if_neg (by omega)]
        rw [e1] at h1 ⊢
        refine ⟨n, ⟨r, false⟩, rfl, by omega, RW.of h1 hrl, hrl, h2, fun ks => ?_⟩
        unfold rdList; rw [e2]
        exact ⟨rfl, rfl, fun _ => rfl⟩
      · have e1 : rcnt s = (0, s.fail) := by unfold rcnt; rw [if_neg (by rw [hb]; simp), hT]; simp only; rw [if_neg hnr]
        have e2 : counted s = (n, ⟨r, true⟩) := by unfold counted takeN; rw [if_neg (by rw [hb]; simp), hT]; simp only; rw [if_pos (by omega)]; rfl
        rw [e1] at h1 ⊢
        refine ⟨0, s.fail, rfl, by decide, RW.of h1 hl, hl, h2, fun ks => ?_⟩
        unfold rdList; rw [e2]
        rw [show rdRows ks (n, (⟨r, true⟩ : Rd)).1 (n, (⟨r, true⟩ : Rd)).2 = ((⟨r, true⟩ : Rd), []) from rows_done _ _ _ rfl]
        exact ⟨rfl, rfl, fun h => (by cases h)⟩
end Go.Proofs.Ytgdoodeibcfcjaa.Wire
