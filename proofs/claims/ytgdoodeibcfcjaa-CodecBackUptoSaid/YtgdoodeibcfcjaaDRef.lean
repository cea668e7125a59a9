/- The reference's Take and TakeText, walked by hand. -/
import Derived.Test.YtgdoodeibcfcjaaDNums
set_option linter.unusedVariables false
set_option linter.unusedSimpArgs false
namespace Go.Proofs.Ytgdoodeibcfcjaa.Wire
open Go.RowKit Go.Proofs.Ytgdoodeibcfcjaa.NumsPure Go.Proofs.Ytgdoodeibcfcjaa.CPure Go.Proofs.Ytgdoodeibcfcjaa.Own
theorem or_step (a b i : Nat) (ha : a < 128) (hi : i ≤ 8) (hb : b < 2 ^ (7 * i)) : bits .or .i64 (b : Int) (wrap64 ((a : Int) * 2 ^ (7 * i))) = ((b + a * 2 ^ (7 * i) : Nat) : Int) := by
  have h7 : 2 ^ (7 * i + 7) ≤ 2 ^ 63 := Nat.pow_le_pow_right (by decide) (by omega)
  have e63 : (2 : Nat) ^ 63 = 9223372036854775808 := by decide
  have h8 : (a + 1) * 2 ^ (7 * i) ≤ 128 * 2 ^ (7 * i) := Nat.mul_le_mul_right _ (by omega)
  have e8 : 128 * 2 ^ (7 * i) = 2 ^ (7 * i + 7) := by rw [Nat.pow_add, Nat.mul_comm]
  rw [Nat.add_mul] at h8
  have hs : a * 2 ^ (7 * i) + b < 9223372036854775808 := by omega
  have e : (a : Int) * 2 ^ (7 * i) = ((a * 2 ^ (7 * i) : Nat) : Int) := by
    rw [Int.natCast_mul, Int.natCast_pow]; rfl
  rw [e, wrap_id (by omega) (by omega), or_add' a b (7 * i) hb hs]
theorem V_step (D : List UInt8) (i : Nat) (c : UInt8) (hi : i ≤ 8) (h : D[i]? = some c) : bits .or .i64 ((V (D.take i) : Nat) : Int) (wrap64 ((c.toNat : Int) % 128 * 2 ^ (7 * i))) = ((V (D.take (i + 1)) : Nat) : Int) := by
  have hl : i < D.length := (List.getElem?_eq_some_iff.1 h).1
  have hlen : (D.take i).length = i := by rw [List.length_take]; omega
  have h1 := V_lt (D.take i)
  rw [hlen, show (128 : Nat) = 2 ^ 7 from rfl, ← Nat.pow_mul] at h1
  have e : (c.toNat : Int) % 128 = ((c.toNat % 128 : Nat) : Int) := by omega
  rw [e, or_step (c.toNat % 128) _ i (by omega) hi h1, take_snoc' D i c h, V_snoc, hlen, show (128 : Nat) ^ i = 2 ^ (7 * i) from by rw [show (128 : Nat) = 2 ^ 7 from rfl, ← Nat.pow_mul], Nat.mul_comm]
set_option maxHeartbeats 4000000 in
set_option maxRecDepth 100000 in
theorem rtake_any (D : List UInt8) (hl : D.length ≤ 1000000000000) (w : World) : Calls Try.prog 82 #[.string ⟨D.toArray⟩] w (Ret3 (takeA (T true 9 D)) w) := by
  have hAt := at_i D
  obtain ⟨S, hS⟩ : ∃ S : ByteArray, S = ⟨D.toArray⟩ := ⟨_, rfl⟩
  rw [← hS] at hAt ⊢
  have hn : S.size = D.length := by rw [hS]; exact size_mk D
  obtain ⟨n, hnn⟩ : ∃ n, n = D.length := ⟨_, rfl⟩
  rw [← hnn] at hn hl
  have HS := Aside0.mk hS
  have HN := Aside0.mk hnn
  have HAT := Aside0.mk hAt
  clear hS hnn hAt
  rcases scan D with ⟨e, c, he, hc, hlt, hbef⟩ | hall
  · have hen : e < n := by rw [HN.out]; exact (List.getElem?_eq_some_iff.1 hc).1
    have HT : Aside0 (T true 9 D = if c.toNat = 0 ∧ 0 < e then none else some (V (D.take (e + 1)), D.drop (e + 1))) := ⟨by rw [T_at e true 9 D he hbef c hc hlt]; simp⟩
    have HX : Aside0 (S.extract (e + 1) S.size = ⟨(D.drop (e + 1)).toArray⟩) := ⟨by
      have := extract_drop S (e + 1) (by omega)
      rw [this]
      have e2 : S.data.toList = D := by rw [HS.out]
      rw [e2]⟩
    have HC := Aside0.mk (And.intro hc hbef)
    have hci : (c.toNat : Int) < 128 := by omega
    have hix := HAT.out e c hc
    clear hc hbef
    go_enter Try.func82, Try.ntmps82
    go_wp2_with (fail)
    go_loopw [5, 6] (fun v5 v6 wr => ∃ i : Nat, i ≤ e ∧ v5 = .int .i64 (V (D.take i) : Int) ∧ v6 = .int .i64 i ∧ wr = w) (fun _ v6 _ => 9 - (intOf v6).toNat)
    case atStart => exact ⟨0, by omega, rfl, rfl, rfl⟩
    case round =>
      obtain ⟨i, hi, rfl, rfl, rfl⟩ := hrel
      by_cases hie : i < e
      · obtain ⟨c', hc', hge⟩ := HC.out.2 i hie
        have hix' := HAT.out i c' hc'
        have hge' : ¬ (c'.toNat : Int) < 128 := by omega
        have HST := Aside0.mk (V_step D i c' (by omega) hc')
        clear hc'
        go_wp2
        go_roundw
        case rel => exact ⟨i + 1, by omega, by rw [HST.out], by go_num, by first | rfl | trivial⟩
        case measure => simp [intOf]; omega
      · obtain rfl : i = e := by omega
        have HST := Aside0.mk (V_step D i c (by omega) HC.out.1)
        by_cases hz : c.toNat = 0 ∧ 0 < i
        · obtain ⟨hz1, hz2⟩ := hz
          have HT2 : Aside0 (T true 9 D = none) := ⟨by rw [HT.out, if_pos ⟨hz1, hz2⟩]⟩
          have hz1' : (c.toNat : Int) = 0 := by omega
          rw [hz1'] at hix
          clear hz1 hz1'
          go_wp2
          go_ret3
          rw [HT2.out]
          exact ⟨rfl, Below.refl _ _⟩
        · have HRR : Aside0 (takeA (T true 9 D) = ((V (D.take (i + 1)) : Int), S.extract (i + 1) S.size, 0)) := ⟨by rw [HT.out, if_neg hz, HX.out]; rfl⟩
          rcases (show (c.toNat = 0 ∧ ¬ 0 < i) ∨ c.toNat ≠ 0 from by omega) with ⟨hcz, h0⟩ | hcz
          · have hcz' : ((c.toNat : Int) == 0) = true := by simpa using hcz
            clear hcz hz
            go_wp2_with (fail)
            have hw1 : IntKind.i64.wrap ((i : Int) + 1) = (i : Int) + 1 := IntWalk.i64_in _ (by omega)
            have hw2 : (0 : Int) ≤ (i : Int) + 1 := by omega
            have hw3 : ((i : Int) + 1).toNat = i + 1 := by omega
            have hw4 : (i : Int) + 1 ≤ (n : Int) := by omega
            go_quiet (fail)
            clear hw1 hw2 hw3 hw4
            go_wp2
            go_ret3
            rw [HRR.out, ← HST.out]
            exact ⟨by rw [hn]; rfl, ⟨rfl, rfl, rfl, Nat.le_refl _, fun _ _ => rfl⟩⟩
          · have hcz' : ((c.toNat : Int) == 0) = false := by simpa using hcz
            clear hcz hz
            go_wp2_with (fail)
            have hw1 : IntKind.i64.wrap ((i : Int) + 1) = (i : Int) + 1 := IntWalk.i64_in _ (by omega)
            have hw2 : (0 : Int) ≤ (i : Int) + 1 := by omega
            have hw3 : ((i : Int) + 1).toNat = i + 1 := by omega
            have hw4 : (i : Int) + 1 ≤ (n : Int) := by omega
            go_quiet (fail)
            clear hw1 hw2 hw3 hw4
            go_wp2
            go_ret3
            rw [HRR.out, ← HST.out]
            exact ⟨by rw [hn]; rfl, ⟨rfl, rfl, rfl, Nat.le_refl _, fun _ _ => rfl⟩⟩
  · have HT : Aside0 (T true 9 D = none) := ⟨T_none 9 true D hall⟩
    have HALL := Aside0.mk hall
    clear hall
    go_enter Try.func82, Try.ntmps82
    go_wp2_with (fail)
    go_loopw [5, 6] (fun v5 v6 wr => ∃ (i : Nat) (x : Int), i ≤ 9 ∧ i ≤ n ∧ v5 = .int .i64 x ∧ v6 = .int .i64 i ∧ wr = w) (fun _ v6 _ => 9 - (intOf v6).toNat)
    case atStart => exact ⟨0, 0, by omega, by omega, rfl, rfl, rfl⟩
    case round =>
      obtain ⟨i, x, hi, hi2, rfl, rfl, rfl⟩ := hrel
      by_cases hl1 : i < 9
      · by_cases hl2 : i < n
        · obtain ⟨c, hc⟩ : ∃ c, D[i]? = some c := ⟨_, List.getElem?_eq_getElem (by have := HN.out; omega)⟩
          have hix := HAT.out i c hc
          have hge : ¬ (c.toNat : Int) < 128 := by have := HALL.out i c hl1 hc; omega
          clear hc
          go_wp2
          go_roundw
          case rel => exact ⟨i + 1, _, by omega, by omega, rfl, by go_num, by first | rfl | trivial⟩
          case measure => simp [intOf]; omega
        · go_wp2
          go_ret3
          rw [HT.out]
          exact ⟨rfl, Below.refl _ _⟩
      · go_wp2
        go_ret3
        rw [HT.out]
        exact ⟨rfl, Below.refl _ _⟩
set_option maxHeartbeats 4000000 in
set_option maxRecDepth 100000 in
theorem rtakeText_any (D : List UInt8) (hl : D.length ≤ 1000000000000) (w : World) : Calls Try.prog 83 #[.string ⟨D.toArray⟩] w (Ret3s (textA (T true 9 D)) w) := by
  have ct := rtake_any D hl
  obtain ⟨S, hS⟩ : ∃ S : ByteArray, S = ⟨D.toArray⟩ := ⟨_, rfl⟩
  rw [← hS] at ct ⊢
  clear hS
  cases hT : T true 9 D with
  | none =>
    rw [hT] at ct
    simp only [takeA] at ct
    clear hT
    go_enter Try.func83, Try.ntmps83
    go_wp2_with (go_at_call 82; refine (ct _).mono ?_; rintro e w1 ⟨rfl, hb⟩; have HB := Aside0.mk hb; clear hb)
    go_ret3
    exact ⟨rfl, HB.out⟩
  | some p =>
    obtain ⟨k, r⟩ := p
    rw [hT] at ct
    simp only [takeA] at ct
    have hk : k < 9223372036854775808 := by have := T_lt hT; rw [p9] at this; exact this
    have hrl : r.length ≤ 1000000000000 := by
      have := (digits_T 9 true _ _ _ hT).1
      have e := congrArg List.length this
      rw [List.length_append] at e
      omega
    clear hT
    obtain ⟨R, hR⟩ : ∃ R : ByteArray, R = ⟨r.toArray⟩ := ⟨_, rfl⟩
    have hRs : R.size = r.length := by rw [hR]; exact size_mk r
    rw [← hR] at ct
    by_cases hgt : r.length < k
    · have HA : Aside0 (textA (some (k, r)) = ((⟨#[]⟩ : ByteArray), (⟨#[]⟩ : ByteArray), 44)) := ⟨by simp only [textA]; rw [if_pos (by omega)]⟩
      have hg : (R.size : Int) < (k : Int) := by omega
      clear hR hRs
      go_enter Try.func83, Try.ntmps83
      go_wp2_with (go_at_call 82; refine (ct _).mono ?_; rintro e w1 ⟨rfl, hb⟩; have HB := Aside0.mk hb; clear hb)
      go_ret3
      rw [HA.out]
      exact ⟨rfl, HB.out⟩
    · have HA : Aside0 (textA (some (k, r)) = (R.extract 0 k, R.extract k R.size, 0)) := ⟨by
        simp only [textA]
        rw [if_neg (by omega), hR, extract_take r k (by omega), extract_rest r k (by omega)]⟩
      have hg : (k : Int) ≤ (R.size : Int) := by omega
      have hg2 : ¬(R.size : Int) < (k : Int) := by omega
      have hk0 : (0 : Int) ≤ (k : Int) := by omega
      clear hR hRs
      go_enter Try.func83, Try.ntmps83
      go_wp2_with (go_at_call 82; refine (ct _).mono ?_; rintro e w1 ⟨rfl, hb⟩; have HB := Aside0.mk hb; clear hb)
      go_quiet (fail)
      go_wp2
      go_ret3
      rw [HA.out]
      exact ⟨rfl, ⟨HB.out.os, HB.out.tape, HB.out.output, HB.out.size, HB.out.block⟩⟩
end Go.Proofs.Ytgdoodeibcfcjaa.Wire
