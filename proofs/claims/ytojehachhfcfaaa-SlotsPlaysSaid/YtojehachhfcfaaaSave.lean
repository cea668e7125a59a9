/- slots.Save, walked. -/
import Derived.Test.YtojehachhfcfaaaSlSect
import Derived.Test.YtojehachhfcfaaaBase3
set_option linter.unusedVariables false
set_option linter.unusedSimpArgs false
namespace Go.Proofs.Ytojehachhfcfaaa.Save
open Go.RowKit Go.Proofs.Ytojehachhfcfaaa.SumPure Go.Proofs.Ytojehachhfcfaaa.Arr Go.Proofs.Ytojehachhfcfaaa.SlSect Go.Proofs.YtojehachhfcfaaaW.PrintWords Go.Proofs.YtojehachhfcfaaaW.PrintLast Go.Proofs.YtojehachhfcfaaaW.PrintMore
open Go.Proofs.Ytojehachhfcfaaa.Med (IsMed write_calls)

def scnt (n : Nat) : Nat := max 1 ((n + 52) / 53)
def schunk (D : List UInt8) (i : Nat) : List UInt8 := (D.drop (53 * i)).take 53
def ssec (n : Int) (D : List UInt8) (q i : Nat) : ByteArray := ⟨(sect n i q (schunk D i)).toArray⟩
theorem schunk_len (D : List UInt8) (i : Nat) : (schunk D i).length ≤ 53 := by simp [schunk]; omega
theorem Sectors_at (s : Nat) (hs : s ≤ 1000000000000000) : slots_Sectors.f (s : Int) = some (scnt s : Int) := by
  unfold slots_Sectors.f
  have h0 : mx (s : Int) 0 = s := by unfold mx; split <;> omega
  rw [h0, wrap_id (x := (s : Int) + 53) (by omega) (by omega), wrap_id (x := (s : Int) + 53 - 1) (by omega) (by omega), Int.tdiv_eq_ediv_of_nonneg (by omega), wrap_id (by omega) (by omega)]
  congr 1
  unfold mx scnt
  split <;> omega
def saveL (n : Int) (D : List UInt8) (q : Nat) (f : Int) : Nat → Nat → Med.Med → Med.Med × Int
  | 0, _, M => (M, 0)
  | m + 1, i, M => if (M.write f i (ssec n D q i)).2 = 0 then saveL n D q f m (i + 1) (M.write f i (ssec n D q i)).1 else M.write f i (ssec n D q i)
def save (M : Med.Med) (n : Int) (D : List UInt8) : Med.Med × Int :=
  if n < 1 ∨ n > 2147483647 ∨ D.length > 1000000 then (M, 43) else saveL n D (scnt D.length) (n % 2) (scnt D.length) 0 M

/-- What a call has made of a media. -/
def Left (own : Nat → Prop) (b : Nat) (w : World) (M : Med.Med) (n : Nat) (w' : World) : Prop := ∃ own', IsMed w' own' b M n ∧ (∀ j, own' j → own j ∨ w.heap.size ≤ j) ∧ Med.Frame own w w'
theorem Left.refl {own : Nat → Prop} {b : Nat} {w : World} {M : Med.Med} {n n' : Nat} (h : IsMed w own b M n) (hn : n ≤ n') : Left own b w M n' w := ⟨own, h.mono hn, fun j hj => .inl hj, Med.Frame.refl _ _⟩
theorem Left.below {own : Nat → Prop} {b : Nat} {w w1 w2 : World} {M : Med.Med} {n : Nat} (h : Left own b w M n w1) (k : Below w1.heap.size w1 w2) : Left own b w M n w2 := by
  obtain ⟨o, a, c, f⟩ := h
  exact ⟨o, a.below k, c, f.trans (Med.Frame.of_below (own := own) k) (fun i hi => .inl hi)⟩
theorem Left.mono {own : Nat → Prop} {b : Nat} {w w1 : World} {M : Med.Med} {n n' : Nat} (h : Left own b w M n w1) (hn : n ≤ n') : Left own b w M n' w1 := by
  obtain ⟨o, a, c, f⟩ := h
  exact ⟨o, a.mono hn, c, f⟩
/-- A sector is written: what 'write_calls' says, one call on. -/
theorem Left.write {own : Nat → Prop} {b : Nat} {w w1 : World} {M : Med.Med} {n : Nat} (h : Left own b w M n w1) (f i : Int) (s : ByteArray) (hs : s.size ≤ 9223372036854775807) (hn : n < 4611686018427380000) :
    Calls Try.prog 35 #[.pointer (some ⟨b, 0, none⟩), .int .i64 f, .int .i64 i, .string s] w1 fun e w' => e = .returned (.int .i64 (M.write f i s).2) ∧ Left own b w (M.write f i s).1 (n + 3) w' := by
  obtain ⟨o, a, c, fr⟩ := h
  refine (write_calls a f i s hs hn).mono ?_
  rintro e w' ⟨own', rfl, m, c', fr'⟩
  refine ⟨rfl, own', m, fun j hj => ?_, fr.trans fr' c⟩
  rcases c' j hj with h | h
  · exact c j h
  · exact .inr (Nat.le_trans fr.size h)
set_option maxHeartbeats 16000000 in
set_option maxRecDepth 100000 in
theorem save_calls {w : World} {own : Nat → Prop} {b : Nat} {M : Med.Med} {nb : Nat} (h : IsMed w own b M nb) (n : Int) (d : ByteArray) (hd : d.size ≤ 1000000000000000) (hn : nb < 4611686018427000000) :
    Calls Try.prog 24 #[.pointer (some ⟨b, 0, none⟩), .int .i64 n, .string d] w fun e w' => e = .returned (.int .i64 (save M n d.data.toList).2) ∧ Left own b w (save M n d.data.toList).1 (nb + 3 * scnt d.size) w' := by
  have H := Aside0.mk h
  clear h
  have hdl : d.data.toList.length = d.size := by simp
  obtain ⟨R, hR⟩ : ∃ X, X = save M n d.data.toList := ⟨_, rfl⟩
  rw [← hR]
  unfold save at hR
  rw [hdl] at hR
  have HR := Aside0.mk hR
  clear hR hdl
  go_enter Try.func24, Try.ntmps24
  by_cases h1 : n < 1
  · go_wp2
    go_ret
    have e : R = (M, 43) := by rw [HR.out, if_pos (by omega)]
    subst e
    exact ⟨rfl, Left.refl H.out (by omega)⟩
  by_cases h2 : n > 2147483647
  · go_wp2
    go_ret
    have e : R = (M, 43) := by rw [HR.out, if_pos (by omega)]
    subst e
    exact ⟨rfl, Left.refl H.out (by omega)⟩
  by_cases h3 : (d.size : Int) > 1000000
  · go_wp2
    go_ret
    have e : R = (M, 43) := by rw [HR.out, if_pos (by omega)]
    subst e
    exact ⟨rfl, Left.refl H.out (by omega)⟩
  have HR2 : Aside0 (R = saveL n d.data.toList (scnt d.size) (n % 2) (scnt d.size) 0 M) := ⟨by rw [HR.out, if_neg (by omega)]⟩
  clear HR
  have hs := Sectors_at d.size hd
  go_upto_region 6 with (go_at_call 25; refine (slots_Sectors.calls _ _ _ hs).mono ?_; rintro e w' ⟨rfl, hdr⟩)
  have HL : Aside0 (Left own b w M nb w') := ⟨(Left.refl H.out (Nat.le_refl _)).below hdr⟩
  clear hdr H hs
  have hq8 : scnt d.size ≤ 18868 := by unfold scnt; omega
  obtain ⟨q, hq⟩ : ∃ q, q = scnt d.size := ⟨_, rfl⟩
  rw [← hq] at HR2 hq8 ⊢
  have HQ := Aside0.mk hq
  clear hq
  have h3' : d.size ≤ 1000000 := by omega
  clear h3
  go_wp2
  go_loopw [2, 30] (fun v2 v30 wr => ∃ (i : Nat) (X : ByteArray) (Mi : Med.Med), i ≤ q ∧ v30 = .int .i64 i ∧ v2 = .string X ∧ Aside0 (X.data.toList = d.data.toList.drop (53 * i)) ∧ Aside0 (Left own b w Mi (nb + 3 * i) wr) ∧ Aside0 (R = saveL n d.data.toList q (n % 2) (q - i) i Mi)) (fun _ v30 _ => q - (intOf v30).toNat)
  case atStart => exact ⟨0, d, M, by omega, rfl, rfl, ⟨by simp⟩, ⟨HL.out⟩, ⟨HR2.out⟩⟩
  case round =>
    obtain ⟨i, X, Mi, hi, rfl, rfl, HX, HLi, HRi⟩ := hrel
    by_cases hlt : i < q
    · have hxs : X.size ≤ 1000000 := by
        have := congrArg List.length HX.out
        rw [size_len, List.length_drop, size_len] at this
        omega
      obtain ⟨r1, r2, hr⟩ : ∃ r1 r2, Mi.write (n % 2) i (ssec n d.data.toList q i) = (r1, r2) := ⟨_, _, rfl⟩
      have hwr : ∀ W, Left own b w Mi (nb + 3 * i) W → Calls Try.prog 35 #[.pointer (some ⟨b, 0, none⟩), .int .i64 (n % 2), .int .i64 i, .string (ssec n d.data.toList q i)] W fun e w' => e = .returned (.int .i64 r2) ∧ Left own b w r1 (nb + 3 * i + 3) w' := fun W hW => by
        have := hW.write (n % 2) i (ssec n d.data.toList q i) (by unfold ssec; rw [size_mk, sect_len _ _ _ _ (schunk_len _ _)]; omega) (by omega)
        rw [hr] at this
        exact this
      have HRr : Aside0 (R = if r2 = 0 then saveL n d.data.toList q (n % 2) (q - (i + 1)) (i + 1) r1 else (r1, r2)) := ⟨by
        rw [HRi.out, show q - i = (q - (i + 1)) + 1 from by omega, saveL, hr]⟩
      clear hr HRi
      have hx1 : ∀ k : Nat, (k = 53 ∨ k = X.size) → k ≤ 53 → k ≤ X.size → (X.extract 0 k).data.toList = schunk d.data.toList i := fun k hk h53 hle => by
        rw [extract_mid]
        unfold schunk
        rw [← HX.out]
        show ((X.data.toList.drop 0).take (k - 0)) = _
        rcases hk with rfl | rfl
        · rfl
        · rw [List.drop_zero, Nat.sub_zero, List.take_of_length_le (by rw [size_len]; omega), List.take_of_length_le (by rw [size_len]; omega)]
      have hsec : ∀ (k : Nat) (W : World), (k = 53 ∨ k = X.size) → k ≤ 53 → k ≤ X.size → Calls Try.prog 49 #[.agg #[.int .i64 n, .int .i64 i, .int .i64 q, .string (X.extract 0 k)]] W fun e w' => e = .returned (.string (ssec n d.data.toList q i)) ∧ Below W.heap.size W w' := fun k W hk h53 hle => by
        have := sector_any n i q (X.extract 0 k) W (by rw [← size_len, hx1 k hk h53 hle]; exact schunk_len _ _)
        rw [hx1 k hk h53 hle] at this
        exact this
      have hx2 : ∀ k : Nat, (k = 53 ∨ k = X.size) → k ≤ 53 → k ≤ X.size → (X.extract k X.size).data.toList = d.data.toList.drop (53 * (i + 1)) := fun k hk h53 hle => by
        rw [extract_drop X k hle, show 53 * (i + 1) = 53 * i + 53 from by omega, ← List.drop_drop, ← HX.out]
        show X.data.toList.drop k = _
        rcases hk with rfl | rfl
        · rfl
        · rw [List.drop_eq_nil_of_le (by rw [size_len]; omega), List.drop_eq_nil_of_le (by rw [size_len]; omega)]
      have HX1 := Aside0.mk hsec
      have HX2 := Aside0.mk hx2
      clear hx1 hsec hx2
      by_cases hc : X.size ≤ 53
      · have hsx : ∀ W, Calls Try.prog 49 #[.agg #[.int .i64 n, .int .i64 i, .int .i64 q, .string X]] W fun e w' => e = .returned (.string (ssec n d.data.toList q i)) ∧ Below W.heap.size W w' := fun W => by
          have := HX1.out X.size W (.inr rfl) (by omega) (by omega)
          rw [show X.extract 0 X.size = X from by simp] at this
          exact this
        by_cases h0 : r2 = 0
        · subst h0
          go_wp2_with (first | (go_at_call 49; refine (hsx _).mono ?_; rintro e wS ⟨rfl, hb⟩; have HLS := Aside0.mk (HLi.out.below hb); clear hb) | (go_at_call 35; refine (hwr _ HLS.out).mono ?_; rintro e wW ⟨rfl, hl⟩; have HLW := Aside0.mk hl; clear hl))
          refine ⟨⟨i + 1, _, r1, by omega, by go_num, rfl, ⟨by have := HX2.out X.size (.inr rfl) (by omega) (by omega); rw [← this, extract_mid]; simp⟩, ⟨HLW.out.mono (by omega)⟩, ⟨by rw [HRr.out]; simp⟩⟩, by simp [intOf]; omega⟩
        · go_wp2_with (first | (go_at_call 49; refine (hsx _).mono ?_; rintro e wS ⟨rfl, hb⟩; have HLS := Aside0.mk (HLi.out.below hb); clear hb) | (go_at_call 35; refine (hwr _ HLS.out).mono ?_; rintro e wW ⟨rfl, hl⟩; have HLW := Aside0.mk hl; clear hl))
          go_ret
          have e : R = (r1, r2) := by rw [HRr.out, if_neg h0]
          subst e
          exact ⟨rfl, HLW.out.mono (by rw [← HQ.out]; omega)⟩
      · have hsx : ∀ W, Calls Try.prog 49 #[.agg #[.int .i64 n, .int .i64 i, .int .i64 q, .string (X.extract 0 53)]] W fun e w' => e = .returned (.string (ssec n d.data.toList q i)) ∧ Below W.heap.size W w' := fun W => HX1.out 53 W (.inl rfl) (by omega) (by omega)
        by_cases h0 : r2 = 0
        · subst h0
          go_wp2_with (first | (go_at_call 49; refine (hsx _).mono ?_; rintro e wS ⟨rfl, hb⟩; have HLS := Aside0.mk (HLi.out.below hb); clear hb) | (go_at_call 35; refine (hwr _ HLS.out).mono ?_; rintro e wW ⟨rfl, hl⟩; have HLW := Aside0.mk hl; clear hl))
          refine ⟨⟨i + 1, _, r1, by omega, by go_num, rfl, ⟨HX2.out 53 (.inl rfl) (by omega) (by omega)⟩, ⟨HLW.out.mono (by omega)⟩, ⟨by rw [HRr.out]; simp⟩⟩, by simp [intOf]; omega⟩
        · go_wp2_with (first | (go_at_call 49; refine (hsx _).mono ?_; rintro e wS ⟨rfl, hb⟩; have HLS := Aside0.mk (HLi.out.below hb); clear hb) | (go_at_call 35; refine (hwr _ HLS.out).mono ?_; rintro e wW ⟨rfl, hl⟩; have HLW := Aside0.mk hl; clear hl))
          go_ret
          have e : R = (r1, r2) := by rw [HRr.out, if_neg h0]
          subst e
          exact ⟨rfl, HLW.out.mono (by rw [← HQ.out]; omega)⟩
    · obtain rfl : i = q := by omega
      go_wp2
      go_ret
      have e : R = (Mi, 0) := by rw [HRi.out, Nat.sub_self, saveL]
      subst e
      exact ⟨rfl, HLi.out.mono (by rw [← HQ.out]; omega)⟩
end Go.Proofs.Ytojehachhfcfaaa.Save
