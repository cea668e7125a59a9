/- The law LogsKeeps, walked. -/
import Derived.Test.YtdjcaogffppdhaaLogLaw
import Derived.Test.YtdjcaogffppdhaaArgs
set_option linter.unusedVariables false
set_option linter.unusedSimpArgs false
namespace Go.Proofs.Ytdjcaogffppdhaa.LawLKeeps
open Go.RowKit Go.ChangeMaps Go.Proofs.Ytdjcaogffppdhaa.AtX Go.Proofs.Ytdjcaogffppdhaa.Log Go.Proofs.Ytdjcaogffppdhaa.LogZ Go.Proofs.Ytdjcaogffppdhaa.SumPure
open Go.Proofs.Ytdjcaogffppdhaa.Med (IsMed Med Ranged IsSize IsFiles Filed)
open Go.Proofs.Ytdjcaogffppdhaa.FramesPure Go.Proofs.Ytdjcaogffppdhaa.Args
open Go.Proofs.YtdjcaogffppdhaaW.PrintWords Go.Proofs.YtdjcaogffppdhaaW.PrintLast Go.Proofs.YtdjcaogffppdhaaW.PrintMore
/-- What is left behind the Trim: the frames' ends. -/
theorem ends {M M' : Med} {L : Lg} {ps A B : List Pc} {x : Int} (hI : Inv NoG M L ps) (hI' : Inv NoG M' L B) (hn : L.next = (ps.length : Int) + 1) (he : ps = A ++ B) (hb : B = [] → ps = []) (hA : ∀ p ∈ A, p.n ≤ x) (h0 : 0 < ps.length) :
    ∃ b z, B[0]? = some b ∧ B[B.length - 1]? = some z ∧ z.n = ps.length ∧ 1 ≤ b.n ∧ b.n ≤ 1000000000 + z.n ∧ (b.n - 1 ≤ x ∨ b.n - 1 ≤ 0) := by
  have hne : B ≠ [] := fun e => by have := hb e; rw [this] at h0; simp at h0
  have hbl : 0 < B.length := List.length_pos_iff.2 hne
  obtain ⟨b, hb0⟩ : ∃ b, B[0]? = some b := ⟨_, List.getElem?_eq_getElem hbl⟩
  obtain ⟨z, hz, _⟩ := hI'.last hne
  have z3 := (hI'.lst z hz).2.2
  have b1 := (hI'.below hb0).1
  have bok := (hI'.good b (List.mem_of_getElem? hb0)).ok.1
  refine ⟨b, z, hb0, hz, by omega, bok, by omega, ?_⟩
  have hlen : ps.length = A.length + B.length := by rw [he, List.length_append]
  by_cases k : A = []
  · right
    rw [k] at hlen
    simp at hlen
    omega
  · left
    have hal : 0 < A.length := List.length_pos_iff.2 k
    have hy : A[A.length - 1]? = some A[A.length - 1] := List.getElem?_eq_getElem (by omega)
    have m := hA _ (List.mem_of_getElem? hy)
    have iy : ps[A.length - 1]? = some A[A.length - 1] := by rw [he, List.getElem?_append_left (by omega)]; exact hy
    have := (hI.below iy).1
    omega
set_option maxHeartbeats 16000000 in
set_option maxRecDepth 100000 in
theorem walk (a0 : Option Addr) (len0 cap0 : Nat) (l0 : List Int) (x : Int) (w : World) (h0 : Has w a0 len0 l0) (hx0 : -9223372036854775808 ≤ x) (hx1 : x ≤ 9223372036854775807) :
    Calls Try.prog 7 #[.slice a0 len0 cap0, .int .i64 x] w fun e w' => e = .returned (.bool true) ∧ Below w.heap.size w w' := by
  have l0le := h0.le
  have H0 := Aside0.mk h0
  clear h0
  go_enter Try.func7, Try.ntmps7
  go_wp2_with (fail)
  refine (AtX.new w).mono ?_
  rintro e w1 ⟨b, rfl, h1⟩
  have H1 := Aside0.mk h1
  clear h1
  go_wp2_with (fail)
  refine (open_now H1.out (Inv.new NoG) (fun s k => k.elim) rfl (by decide)).mono ?_
  rintro e w2 ⟨bl, g, A0, c0, L0, rfl, h2, e1, e2, e3, _, _⟩
  have HL0 := Aside0.mk e3
  have H2 : Aside0 (Now NoG w (fun _ => False) b bl g Med.Med.new L0 [] (0 + 50000000) w2) := ⟨⟨h2.at_.narrow _ fun i hi => hi.elim, h2.inv, h2.off⟩⟩
  clear h2 e1 e2 e3 H1
  simp only [List.length_nil]
  go_wp2_with (fail)
  go_loopw [9, 10] (fun v9 v10 wr => ∃ (i : Nat) (dn : Int) (M : Med) (L : Lg) (ps : List Pc), i ≤ 100 ∧ i ≤ len0 ∧ v10 = .int .i64 i ∧ v9 = .int .i64 dn ∧ 0 ≤ dn ∧ dn ≤ 1000 * i ∧ Aside0 (dn = needP x ps) ∧ Aside0 (Now NoG w (fun _ => False) b bl g M L ps (50000000 + 30 * i) wr) ∧ Aside0 (ps.length = i ∧ L.next = (i : Int) + 1) ∧ Aside0 (M.left < 0)) (fun _ v10 _ => 100 - (intOf v10).toNat)
  case atStart => exact ⟨0, 0, Med.Med.new, L0, [], by omega, by omega, rfl, rfl, by omega, by omega, ⟨rfl⟩, ⟨H2.out⟩, ⟨rfl, HL0.out⟩, ⟨by decide⟩⟩
  case round =>
    obtain ⟨i, dn, M, L, ps, hi, hi0, rfl, rfl, d0, d1, HD, HA, HN, HL⟩ := hrel
    clear H2 HL0
    by_cases hlt : i < len0 ∧ i < 100
    · obtain ⟨hlt, h100⟩ := hlt
      obtain ⟨x0, rfl, hc0, hlo, hhi⟩ := H0.out.at HA.out.at_.below hlt
      obtain ⟨z, hz⟩ : ∃ z, z = l0.getD i 0 := ⟨_, rfl⟩
      rw [← hz] at hc0 hlo hhi
      clear hz
      obtain ⟨m, hm, hm4⟩ : ∃ m : Nat, min (max z 0) 440 = (m : Int) ∧ m ≤ 440 := ⟨(min (max z 0) 440).toNat, by omega, by omega⟩
      have ww : IntKind.i64.wrap ((i : Int) + 1) = (i : Int) + 1 := by rw [IntKind.wrap_i64]; omega
      go_wp2_with (fail)
      refine (zeros_any m (by omega) _).mono ?_
      rintro e wS ⟨rfl, hh⟩
      have HB := Aside0.mk (HA.out.after hh)
      clear hh HA
      have HZL : Aside0 ((zeroL m).length = m) := ⟨by simp [zeroL]⟩
      go_wp2_with (fail)
      have cap := HB.out.append_sure HL.out (by omega) (by have := HN.out.2; omega) (zeroL m) (by have := HZL.out; omega)
      rw [HN.out.2] at cap
      refine cap.mono ?_
      rintro e wT ⟨M', L', p, rfl, h1, h2, h3, h4, h5, _, _⟩
      have HC := Aside0.mk h1
      have HL' := Aside0.mk h2
      have HN' : Aside0 ((ps ++ [p]).length = i + 1 ∧ L'.next = ((i + 1 : Nat) : Int) + 1) := ⟨⟨by have := HN.out.1; simp; omega, by omega⟩⟩
      have hpq : p.q = max 1 (((m : Int) + 54) / 55) := by unfold Pc.q; rw [h5, HZL.out]; unfold cnt; omega
      have HD' : Aside0 (needP x (ps ++ [p]) = dn + (if x < (i : Int) + 1 then max 1 (((m : Int) + 54) / 55) + 7 else 0)) := ⟨by rw [needP_append, ← HD.out]; simp only [needP]; rw [h4, hpq]; omega⟩
      clear h1 h2 h3 h4 h5 hpq cap HB
      have w1' : IntKind.i64.wrap ((m : Int) + 54) = (m : Int) + 54 := by rw [IntKind.wrap_i64]; omega
      by_cases hk : (i : Int) + 1 > x
      · go_wp2
        go_roundw
        case rel => exact ⟨i + 1, dn + max 1 (((m : Int) + 54) / 55) + 7, M', L', _, by omega, by omega, by congr 1, rfl, by omega, by omega, ⟨by rw [HD'.out, if_pos (by omega)]; omega⟩, ⟨HC.out.mono (by omega)⟩, HN', HL'⟩
        case measure => simp only [intOf]; omega
      · go_wp2
        go_roundw
        case rel => exact ⟨i + 1, dn, M', L', _, by omega, by omega, by congr 1, rfl, by omega, by omega, ⟨by rw [HD'.out, if_neg (by omega)]; omega⟩, ⟨HC.out.mono (by omega)⟩, HN', HL'⟩
        case measure => simp only [intOf]; omega
    · have hex : ¬i < len0 ∨ (i < len0 ∧ ¬i < 100) := by omega
      rcases hex with hex | ⟨hex, hex2⟩
      all_goals
        have hmn : min (len0 : Int) 100 = (i : Int) := by omega
        go_wp2_with (fail)
        refine (HA.out.trim_sure HL.out (by omega) x).mono ?_
        rintro e wT ⟨M2, B0, B, rfl, h2, _, he, hb, hA, hB, _⟩
        have hq : sumQ B ≤ dn + 32 := by
          have k1 := h2.inv.few hB
          have k2 : needP x ps = needP x B0 + needP x B := by rw [he, needP_append]
          have k3 := needP_nonneg x B0
          have k4 := HD.out
          omega
        have HE : Aside0 (0 < ps.length → _) := ⟨ends HA.out.inv h2.inv (by have := HN.out; omega) he hb hA⟩
        have HLB : Aside0 (B.length ≤ i) := ⟨by have := HN.out.1; rw [he, List.length_append] at this; omega⟩
        have HBE : Aside0 (i = 0 → B = []) := ⟨fun h => by
          have k := HN.out.1
          rw [h, he] at k
          simp at k
          exact k.2⟩
        obtain ⟨sq, hsq⟩ : ∃ sq, sq = sumQ B := ⟨_, rfl⟩
        rw [← hsq] at hq
        have cse := h2.sectors (by omega)
        rw [← hsq] at cse
        have HCS := Aside0.mk cse
        have HSQ := Aside0.mk hsq
        clear cse hsq h2 he hb hA hB HA
        go_wp2_with (fail)
        refine HCS.out.mono ?_
        rintro e wS ⟨rfl, h3, _⟩
        have H3 := Aside0.mk h3
        clear h3 HCS
        go_wp2_with (fail)
        refine (H3.out.again (fun _ k => k) (fun s k => k.elim) (by omega)).mono ?_
        rintro e wO ⟨bk, gk, A, c, K, rfl, ho, hk, _, _, e3, hrow⟩
        have cn1 := hk.nxt
        rw [e3] at cn1
        have cn2 := ho.nxt
        have cs1 := hk.sectors (by omega)
        rw [← HSQ.out] at cs1
        have HROW := Aside0.mk hrow
        have HO := Aside0.mk ho
        have HC1 := Aside0.mk (And.intro cn1 (And.intro cn2 cs1))
        clear hrow ho hk e3 cn1 cn2 cs1 H3
        go_wp2_with (fail)
        refine HC1.out.1.mono ?_
        rintro e wA ⟨rfl, rfl⟩
        go_wp2_with (fail)
        refine HC1.out.2.1.mono ?_
        rintro e wB ⟨rfl, rfl⟩
        go_wp2_with (fail)
        refine HC1.out.2.2.mono ?_
        rintro e wP ⟨rfl, hk2, hs2⟩
        have ho2 := hk2.swap HO.out hs2
        have cs2 := ho2.sectors (by omega)
        rw [← HSQ.out] at cs2
        have HC2 := Aside0.mk cs2
        have HROW2 : Aside0 (wP.ownsRow wS.heap.size 57 2 (.slice A B.length c) B.length (fcells (B.map fr))) := ⟨row_keep HROW.out fun j hj => hs2 j (.inl hj)⟩
        clear HC1 HROW HO hk2 hs2 ho2 cs2
        go_wp2_with (fail)
        refine HC2.out.mono ?_
        rintro e wQ ⟨rfl, hk3, hs3⟩
        have HROW3 : Aside0 (wQ.ownsRow wS.heap.size 57 2 (.slice A B.length c) B.length (fcells (B.map fr))) := ⟨row_keep HROW2.out fun j hj => hs3 j (.inl hj)⟩
        have H4 := Aside0.mk hk3
        clear HC2 HROW2 hk3 hs3
        by_cases hi00 : i = 0
        · have hB0 := HBE.out hi00
          subst hB0
          subst hi00
          simp only [List.length_nil]
          go_wp2_with (go_at_call 37; refine (awake_calls _).mono ?_; rintro e wR ⟨rfl, hb⟩; have HR := Aside0.mk (H4.out.at_.below.trans (hb.mono H4.out.at_.below.size)); clear hb)
          go_ret
          exact ⟨rfl, HR.out⟩
        · obtain ⟨b9, z9, kb, kz, zn, bn1, bn0, bn2⟩ := HE.out (by have := HN.out.1; omega)
          have hBl : 0 < B.length := (List.getElem?_eq_some_iff.1 kb).1
          obtain ⟨q, cap, hv, _, q2, q3, q4⟩ := row_cell HROW3.out hBl
          have f1 := (fcells_at (B.map fr) 0 (fr b9) (by rw [List.getElem?_map, kb]; rfl)).1
          have f2 := (fcells_at (B.map fr) (B.length - 1) (fr z9) (by rw [List.getElem?_map, kz]; rfl)).1
          have c0 : wQ.cell? ⟨q, 0, none⟩ = some (.int .i64 b9.n) := q4 _ _ f1
          have c1 : wQ.cell? ⟨q, (B.length - 1) * 2, none⟩ = some (.int .i64 (i : Int)) := by
            have := q4 _ _ f2
            rw [show (fr z9).1 = (i : Int) from by show z9.n = _; rw [zn, HN.out.1]] at this
            exact this
          have hA : A = some ⟨q, 0, none⟩ := by injection hv
          subst hA
          have hzi : z9.n = (i : Int) := by rw [zn, HN.out.1]
          have hbn : b9.n - 1 ≤ max x 0 := by omega
          obtain ⟨nb, hnb⟩ : ∃ nb, nb = b9.n := ⟨_, rfl⟩
          rw [← hnb] at c0 hbn bn1 bn0
          rw [hzi] at bn0
          have hlB : B.length ≤ 1000000000 := by have := HLB.out; omega
          clear f1 f2 q4 hv hnb zn hzi bn2 kb kz HE HBE HLB HROW3 HSQ HN HD
          generalize B.length = kl at *
          obtain ⟨m, rfl⟩ : ∃ m, kl = m + 1 := ⟨kl - 1, by omega⟩
          rw [show m + 1 - 1 = m from by omega] at c1
          have ww : IntKind.i64.wrap (((m + 1 : Nat) : Int) - 1) = (m : Int) := by rw [IntKind.wrap_i64]; omega
          have w2' : IntKind.i64.wrap (nb - 1) = nb - 1 := by rw [IntKind.wrap_i64]; omega
          have c1' : wQ.cell? ⟨q, ((m : Int)).toNat * 2, none⟩ = some (.int .i64 (i : Int)) := c1
          go_wp2_with (go_at_call 37; refine (awake_calls _).mono ?_; rintro e wR ⟨rfl, hb⟩; have HR := Aside0.mk (H4.out.at_.below.trans (hb.mono H4.out.at_.below.size)); clear hb)
          go_ret
          exact ⟨rfl, HR.out⟩
end Go.Proofs.Ytdjcaogffppdhaa.LawLKeeps
