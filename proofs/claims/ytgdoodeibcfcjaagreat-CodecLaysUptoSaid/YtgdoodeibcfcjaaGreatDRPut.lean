/- The reference's Put of one number, its Text: walked by hand. -/
import Derived.Test.YtgdoodeibcfcjaaGreatDNums
import Derived.Test.YtgdoodeibcfcjaaGreatCList
import Derived.Laws.OwnMore
set_option linter.unusedVariables false
set_option linter.unusedSimpArgs false
namespace Go.Proofs.YtgdoodeibcfcjaaGreat.Wire
open Go.RowKit Go.Proofs.YtgdoodeibcfcjaaGreat.NumsPure Go.Proofs.YtgdoodeibcfcjaaGreat.CPure Go.Proofs.YtgdoodeibcfcjaaGreat.Own
open Go.Proofs.YtgdoodeibcfcjaaGreat.Put (digits digits_lt digits_ge digits_len cells_snoc low_byte high_byte or128)
attribute [local go_sem] max2_i min2_i maxTwo minTwo
theorem str_own {w : World} {B n c : Nat} {A : Option Addr} {acc : List UInt8} (h : w.ownsRow B 5 1 (.slice A n c) n (Lib.byteCells acc)) (hn : n = acc.length) : (convert 106 9 (.slice A n c)).run Tryz.prog w = .ok (.string ⟨acc.toArray⟩) w := by
  subst hn
  rcases h.2 with ⟨e, h0⟩ | ⟨g, cap, cur, e, _⟩
  · obtain rfl : acc = [] := List.length_eq_zero_iff.1 h0
    cases e
    show (convert 106 9 (.slice none 0 0)).run Tryz.prog w = _
    rw [run_convert_bytes_string w 106 9 5 none 0 0 Tryz.underlying106 Tryz.underlying5 Tryz.underlying9]
    rfl
  · have hc := h.cells (g := g) (by rw [e]; rfl)
    obtain ⟨rfl, rfl⟩ : A = some ⟨g, 0, none⟩ ∧ c = cap := by cases e; exact ⟨rfl, rfl⟩
    exact run_convert_bytes_back (P := Tryz.prog) w 106 9 5 ⟨g, 0, none⟩ c acc Tryz.underlying106 Tryz.underlying5 Tryz.underlying9 (fun j hj => by
      exact hc j (.int .u8 (acc[j].toNat : Int)) (by simp [Lib.byteCells, List.getElem?_eq_getElem hj]))
set_option maxHeartbeats 4000000 in
set_option maxRecDepth 100000 in
theorem rput_one (n : Nat) (h : n < 9223372036854775808) (g : Nat) (w : World) (hc : w.cell? ⟨g, 0, none⟩ = some (.int .i64 (n : Int))) :
    Calls Tryz.prog 87 #[.slice (some ⟨g, 0, none⟩) 1 1] w fun e w' => e = .returned (.string ⟨(digits n).toArray⟩) ∧ Below w.heap.size w w' := by
  obtain ⟨i0, hI0, hz0, hz1, hz2⟩ := BldS.infoParts BldS.infoByte
  have hn1 : (n : Int) ≤ 9223372036854775807 := by omega
  have hn0 : ¬(n : Int) < 0 := by omega
  have hg := World.block_lt_of_cell? w _ hc
  have HC := Aside0.mk hc
  have HL : Aside0 ((digits n).length ≤ 9) := ⟨digits_le 8 n (by omega)⟩
  clear hc h
  go_enter Tryz.func87, Tryz.ntmps87
  go_wp2
  go_loopw [3, 4] (fun v3 v4 wr => ∃ (i : Nat) (acc : List UInt8) (A : Option Addr) (c : Nat), i ≤ 1 ∧ v4 = .int .i64 (i : Int) ∧ v3 = .slice A acc.length c ∧ Aside0 (acc = if i = 0 then [] else digits n) ∧ Aside0 (wr.ownsRow w.heap.size 5 1 (.slice A acc.length c) acc.length (Lib.byteCells acc)) ∧ Aside0 (Below w.heap.size w wr)) (fun _ v4 _ => 1 - (intOf v4).toNat)
  case atStart => exact ⟨0, [], none, 0, by omega, rfl, rfl, ⟨rfl⟩, ⟨by simp [Lib.byteCells], .inl ⟨rfl, rfl⟩⟩, ⟨Below.refl _ w⟩⟩
  case round =>
    obtain ⟨i, acc0, A0, c0, hi, rfl, rfl, HA0, HO, HW⟩ := hrel
    by_cases hlt : i = 0
    · subst hlt
      obtain rfl : acc0 = [] := HA0.out
      have hx : wr.cell? ⟨g, 0, none⟩ = some (.int .i64 (n : Int)) := (HW.out.cell hg).trans HC.out
      go_wp2_with fail
      clear hx
      obtain ⟨wo, rfl⟩ : ∃ wo : World, wo = wr := ⟨_, rfl⟩
      go_loopw [3, 5] (fun v3 v5 wr => ∃ (m : Int) (acc : List UInt8) (A : Option Addr) (c : Nat), 0 ≤ m ∧ m ≤ 9223372036854775807 ∧ v5 = .int .i64 m ∧ v3 = .slice A acc.length c ∧ Aside0 (acc ++ digits m.toNat = digits n) ∧ Aside0 (wr.ownsRow w.heap.size 5 1 (.slice A acc.length c) acc.length (Lib.byteCells acc)) ∧ Aside0 (Below w.heap.size w wr)) (fun _ v5 _ => (intOf v5).toNat)
      case atStart => exact ⟨n, [], A0, c0, by omega, by omega, rfl, rfl, ⟨by simp⟩, HO, HW⟩
      case round =>
        clear HO HW
        obtain ⟨m, acc, A, c, hm0, hm9, rfl, rfl, HS, HO, HW⟩ := hrel
        have HF : Aside0 (acc.length ≤ 9) := ⟨by have h1 := HS.out; have h2 := HL.out; rw [← h1, List.length_append] at h2; omega⟩
        by_cases hge : m < 128
        · have HD : Aside0 (digits m.toNat = [UInt8.ofNat m.toNat]) := ⟨digits_lt (by omega)⟩
          go_wp2_with (at_builtin; refine wpList_append_own _ rfl _ _ 106 rfl w.heap.size 5 i0 (.int .u8 0) 1 1 Tryz.underlying106 hI0 hz0 hz1 hz2 rfl (by decide) _ _ _ rfl (HO.out.alloc _) ⟨wr.heap.size, 0, none⟩ 1 1 [.int .u8 m] rfl rfl ?c1 ?c2 ?c3 ?c4 ?c5 ?_)
          case c1 =>
            intro j u hj
            match j, hj with
            | 0, hj => simp at hj; subst hj; simp [Addr.add]
          case c2 => intro u hu; simp at hu; subst hu; rfl
          case c3 => unfold maxLen; have := HF.out; omega
          case c4 => have := HF.out; omega
          case c5 => have := HW.out.size; simp; omega
          intro v' w2 hown' hgrow _
          obtain ⟨A', c', rfl⟩ := own_shape hown'
          have HO2 := Aside0.mk hown'
          have HW2 : Aside0 (Below w.heap.size w w2) := ⟨(HW.out.alloc HW.out.size _).grown hgrow (by have := HW.out.size; simp; omega) (fun k hk => (HO.out.lt k hk).1)⟩
          clear hown' hgrow
          go_wp2
          go_roundw
          case rel => exact ⟨1, acc ++ [UInt8.ofNat m.toNat], A', c', by omega, rfl, by simp, ⟨by rw [if_neg (by decide), ← HS.out, HD.out]⟩, ⟨by have := HO2.out; rw [cells_snoc, ← low_byte m hm0 hge, Int.emod_eq_of_lt hm0 (by omega)]; simpa using this⟩, HW2⟩
          case measure => simp [intOf]
        · have hdiv : wrap64 (m.tdiv 128) = m / 128 := by rw [Int.tdiv_eq_ediv_of_nonneg hm0]; exact IntWalk.wrap64_in _ (by omega)
          go_wp2_with (at_builtin; refine wpList_append_own _ rfl _ _ 106 rfl w.heap.size 5 i0 (.int .u8 0) 1 1 Tryz.underlying106 hI0 hz0 hz1 hz2 rfl (by decide) _ _ _ rfl (HO.out.alloc _) ⟨wr.heap.size, 0, none⟩ 1 1 [.int .u8 (m % 128 + 128)] rfl rfl ?c1 ?c2 ?c3 ?c4 ?c5 ?_)
          case c2 => rfl
          case c3 => unfold maxLen; have := HF.out; omega
          case c4 => have := HF.out; omega
          case c5 => have := HW.out.size; simp; omega
          intro v' w2 hown' hgrow _
          obtain ⟨A', c', rfl⟩ := own_shape hown'
          have HO2 := Aside0.mk hown'
          have HW2 : Aside0 (Below w.heap.size w w2) := ⟨(HW.out.alloc HW.out.size _).grown hgrow (by have := HW.out.size; simp; omega) (fun k hk => (HO.out.lt k hk).1)⟩
          clear hown' hgrow
          go_wp2
          go_roundw
          case rel => exact ⟨m / 128, acc ++ [UInt8.ofNat (m.toNat % 128 + 128)], A', c', by omega, by omega, rfl, by simp, ⟨by rw [← HS.out, digits_ge (n := m.toNat) (by omega), List.append_assoc, show (m / 128).toNat = m.toNat / 128 from by omega]; rfl⟩, ⟨by have := HO2.out; rw [cells_snoc, ← high_byte m hm0]; simpa using this⟩, HW2⟩
          case measure => simp [intOf, hdiv]; omega
    · obtain rfl : i = 1 := by omega
      have hcv := str_own HO.out rfl
      go_wp2
      go_ret
      exact ⟨by rw [HA0.out]; rfl, HW.out⟩
theorem rcount_any (n : Nat) (h : n < 9223372036854775808) (w : World) : Calls Tryz.prog 32 #[.int .i64 (n : Int)] w fun e w' => e = .returned (.string ⟨(digits n).toArray⟩) ∧ Below w.heap.size w w' := by
  have HP := Aside0.mk (fun g (w : World) hc => rput_one n h g w hc)
  clear h
  go_enter Tryz.func32, Tryz.ntmps32
  go_wp2_with (go_at_call 87; refine (HP.out _ _ (by simp)).mono ?_; rintro e w1 ⟨rfl, hb⟩; have HB := Aside0.mk hb; clear hb)
  go_ret
  exact ⟨rfl, ((Below.refl _ w).alloc (Nat.le_refl _) _).trans (HB.out.mono (by simp))⟩
theorem rtext_01 (s : ByteArray) (h : s.size ≤ 140737488355328) (w : World) : Calls Tryz.prog 88 #[.string s] w fun e w' => e = .returned (.string ⟨(textB s).toArray⟩) ∧ Below w.heap.size w w' := by
  have HE : Aside0 ((⟨(digits s.size).toArray⟩ : ByteArray) ++ s = ⟨(textB s).toArray⟩) := ⟨by unfold textB; rw [← ba_append, ba_eta]⟩
  have HL : Aside0 ((digits s.size).length ≤ 9) := ⟨digits_le 8 s.size (by omega)⟩
  obtain ⟨P, hP⟩ : ∃ P : ByteArray, P = ⟨(digits s.size).toArray⟩ := ⟨_, rfl⟩
  have hPs : P.size ≤ 9 := by rw [hP, size_mk]; exact HL.out
  have cp := fun g (w : World) hc => rput_one s.size (by omega) g w hc
  rw [← hP] at HE cp
  have CP := Aside0.mk cp
  clear hP cp
  go_enter Tryz.func88, Tryz.ntmps88
  go_wp2_with (go_at_call 87; refine (CP.out _ _ (by simp)).mono ?_; rintro e w1 ⟨rfl, hb⟩; have HB := Aside0.mk hb; clear hb)
  go_ret
  exact ⟨by rw [← HE.out]; rfl, ((Below.refl _ w).alloc (Nat.le_refl _) _).trans (HB.out.mono (by simp))⟩
theorem rtext_any (s : ByteArray) (h : s.size ≤ 140737488355328) (w : World) : Calls Tryz.prog 33 #[.string s] w fun e w' => e = .returned (.string ⟨(textB s).toArray⟩) ∧ Below w.heap.size w w' := by
  have CT := Aside0.mk (fun w => rtext_01 s h w)
  clear h
  go_enter Tryz.func33, Tryz.ntmps33
  go_wp2_with (go_at_call 88; refine (CT.out _).mono ?_; rintro e w1 ⟨rfl, hb⟩; have HB := Aside0.mk hb; clear hb)
  go_ret
  exact ⟨rfl, HB.out⟩
theorem rwhole_any (z : Int) (w : World) : Calls Tryz.prog 34 #[.int .i64 z] w fun e w' => e = .returned (.string ⟨(digits (foldN z)).toArray⟩) ∧ Below w.heap.size w w' := by
  have hf : foldN z < 9223372036854775808 := by have := clamp_bd z; unfold foldN; split <;> omega
  have HP := Aside0.mk (fun g (w : World) hc => rput_one (foldN z) hf g w hc)
  have HM : Aside0 ((foldN z : Int) = if clampN z < 0 then -2 * clampN z - 1 else 2 * clampN z) := ⟨by have := clamp_bd z; unfold foldN; split <;> omega⟩
  clear hf
  rcases (show z < -4611686018427387904 ∨ 4611686018427387903 < z ∨ (-4611686018427387904 ≤ z ∧ z < 0) ∨ (0 ≤ z ∧ z ≤ 4611686018427387903) from by omega) with h | h | ⟨h, h'⟩ | ⟨h, h'⟩
  all_goals
    go_enter Tryz.func34, Tryz.ntmps34
    go_wp2_with (go_at_call 87; refine (HP.out _ _ (by simp; rw [HM.out]; unfold clampN; (try unfold wrap64); split <;> omega)).mono ?_; rintro e w1 ⟨rfl, hb⟩; have HB := Aside0.mk hb; clear hb)
    go_ret
    exact ⟨rfl, ((Below.refl _ w).alloc (Nat.le_refl _) _).trans (HB.out.mono (by simp))⟩
end Go.Proofs.YtgdoodeibcfcjaaGreat.Wire
