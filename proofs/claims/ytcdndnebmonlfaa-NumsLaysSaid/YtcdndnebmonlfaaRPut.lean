/- What the reference's Put answers: the bytes of the numbers, at any int64 numbers whose bytes take at most 211106232532992 bytes together. -/
import Derived.Test.YtcdndnebmonlfaaPut
import Derived.IntWalk
set_option linter.unusedVariables false
set_option linter.unusedSimpArgs false
namespace Go.Proofs.Ytcdndnebmonlfaa.RPut
open Go.RowKit Go.Proofs.Ytcdndnebmonlfaa.Put Go.Proofs.YtcdndnebmonlfaaW.PrintWords Go.Proofs.YtcdndnebmonlfaaW.PrintLast Go.Proofs.YtcdndnebmonlfaaW.PrintMore
attribute [local go_sem] max2_int min2_int max_two min_two max_three min_three max_four min_four
theorem own_shape {w : World} {B n k : Nat} {e : TypeId} {v : Value} {xs : List Value} (h : w.ownsRow B e k v n xs) : ∃ A c, v = .slice A n c := by
  rcases h.2 with ⟨rfl, h0⟩ | ⟨g, cap, cur, rfl, _⟩
  · exact ⟨none, 0, by rw [h0]⟩
  · exact ⟨_, _, rfl⟩
theorem str_own {w : World} {B n c : Nat} {A : Option Addr} {acc : List UInt8} (h : w.ownsRow B 5 1 (.slice A n c) n (Lib.byteCells acc)) (hn : n = acc.length) : (convert 40 9 (.slice A n c)).run Try.prog w = .ok (.string ⟨acc.toArray⟩) w := by
  subst hn
  rcases h.2 with ⟨e, h0⟩ | ⟨g, cap, cur, e, _⟩
  · obtain rfl : acc = [] := List.length_eq_zero_iff.1 h0
    cases e
    show (convert 40 9 (.slice none 0 0)).run Try.prog w = _
    rw [run_convert_bytes_string w 40 9 5 none 0 0 Try.underlying40 Try.underlying5 Try.underlying9]
    rfl
  · have hc := h.cells (g := g) (by rw [e]; rfl)
    obtain ⟨rfl, rfl⟩ : A = some ⟨g, 0, none⟩ ∧ c = cap := by cases e; exact ⟨rfl, rfl⟩
    exact run_convert_bytes_back (P := Try.prog) w 40 9 5 ⟨g, 0, none⟩ c acc Try.underlying40 Try.underlying5 Try.underlying9 (fun j hj => by
      exact hc j (.int .u8 (acc[j].toNat : Int)) (by simp [Lib.byteCells, List.getElem?_eq_getElem hj]))
set_option maxHeartbeats 4000000 in
set_option maxRecDepth 100000 in
theorem rput_any (A0 : Option Addr) (c0 : Nat) (l : List Int) (w : World) (hr : Kd.C (Kd.int .i64) w A0 l.length l) (hc : l.length ≤ c0) (hl : (putAll l).length ≤ 211106232532992) (hb : ∀ x ∈ l, x ≤ 9223372036854775807) :
    Calls Try.prog 13 #[.slice A0 l.length c0] w fun e w' => e = .returned (.string ⟨(putAll l).toArray⟩) ∧ Below w.heap.size w w' := by
  obtain ⟨i0, hI0, hz0, hz1, hz2⟩ := Bld.infoParts Bld.infoByte
  have hmx : l.length ≤ 9223372036854775807 := (Kd.reads_of_C (enc := Value.int .i64) (d := (0 : Int)) (h1 := fun _ => rfl) hr).2.1
  have HR := Aside0.mk hr
  have HC := Aside0.mk hc
  have HL := Aside0.mk hl
  have HBD := Aside0.mk hb
  clear hr hc hl hb
  go_enter Try.func13, Try.ntmps13
  go_wp2
  go_loopw [3, 4] (fun v3 v4 wr => ∃ (i : Int) (acc : List UInt8) (A : Option Addr) (c : Nat), 0 ≤ i ∧ i ≤ (l.length : Int) ∧ v4 = .int .i64 i ∧ v3 = .slice A acc.length c ∧ Aside0 (acc = putAll (l.take i.toNat)) ∧ Aside0 (wr.ownsRow w.heap.size 5 1 (.slice A acc.length c) acc.length (Lib.byteCells acc)) ∧ Aside0 (Below w.heap.size w wr)) (fun _ v4 _ => l.length - (intOf v4).toNat)
  case atStart => exact ⟨0, [], none, 0, by omega, by omega, rfl, rfl, ⟨rfl⟩, ⟨by simp [Lib.byteCells], .inl ⟨rfl, rfl⟩⟩, ⟨Below.refl _ w⟩⟩
  case round =>
    obtain ⟨i, acc0, A1, c1, hi0, hi, rfl, rfl, HA0, HO, HW⟩ := hrel
    by_cases hlt : i < (l.length : Int)
    · obtain ⟨ad, e1, hx⟩ := Kd.at_int HR.out i hi0 hlt
      cases e1
      replace hx := (HW.out.cell (World.block_lt_of_cell? w _ hx)).trans hx
      obtain ⟨z, hz⟩ : ∃ z, z = rd l i := ⟨_, rfl⟩
      rw [← hz] at hx
      have HZ := Aside0.mk hz
      clear hz
      obtain ⟨m0, hm0⟩ : ∃ m, (if z < 0 then 0 else z) = m := ⟨_, rfl⟩
      have HS : Aside0 (acc0 ++ digits m0.toNat = putAll (l.take (i + 1).toNat)) := ⟨by
        have e2 : (i + 1).toNat = i.toNat + 1 := by omega
        have e3 : (rd l i).toNat = m0.toNat := by rw [← HZ.out, ← hm0]; split <;> omega
        rw [HA0.out, e2, putAll_snoc l i.toNat (by omega), ← e3]; rfl⟩
      have HM : Aside0 (0 ≤ m0 ∧ m0 ≤ 9223372036854775807) := ⟨by
        have hm : l.getD i.toNat 0 ∈ l := by rw [List.getD_eq_getElem?_getD, List.getElem?_eq_getElem (by omega)]; exact List.getElem_mem _
        have h1 := HBD.out _ hm
        have h2 : z = l.getD i.toNat 0 := HZ.out
        rw [← hm0]; split <;> omega⟩
      have HI : Aside0 ((putAll (l.take (i + 1).toNat)).length ≤ 211106232532992) := ⟨Nat.le_trans (putAll_le l _) HL.out⟩
      go_wp2_with fail
      clear hm0 hx
      obtain ⟨wo, rfl⟩ : ∃ wo : World, wo = wr := ⟨_, rfl⟩
      go_loopw [3, 5] (fun v3 v5 wr => ∃ (m : Int) (acc : List UInt8) (A : Option Addr) (c : Nat), 0 ≤ m ∧ m ≤ 9223372036854775807 ∧ v5 = .int .i64 m ∧ v3 = .slice A acc.length c ∧ Aside0 (acc ++ digits m.toNat = putAll (l.take (i + 1).toNat)) ∧ Aside0 (wr.ownsRow w.heap.size 5 1 (.slice A acc.length c) acc.length (Lib.byteCells acc)) ∧ Aside0 (Below w.heap.size w wr)) (fun _ v5 _ => (intOf v5).toNat)
      case atStart => exact ⟨m0, acc0, A1, c1, HM.out.1, HM.out.2, rfl, rfl, HS, HO, HW⟩
      case round =>
        clear HO HW HS HM
        obtain ⟨m, acc, A, c, hm0, hm9, rfl, rfl, HS, HO, HW⟩ := hrel
        have HF : Aside0 (acc.length + 1 ≤ 211106232532992) := ⟨by have h1 := HS.out; have h2 := HI.out; rw [← h1, List.length_append] at h2; have := digits_len m.toNat; omega⟩
        by_cases hge : m < 128
        · have HD : Aside0 (digits m.toNat = [UInt8.ofNat m.toNat]) := ⟨digits_lt (by omega)⟩
          go_wp2_with (at_builtin; refine App1.wpList_append_one _ rfl _ _ 40 rfl w.heap.size 5 i0 (.int .u8 0) Try.underlying40 hI0 hz0 hz1 hz2 rfl _ _ _ rfl (HO.out.alloc _) ⟨wr.heap.size, 0, none⟩ 1 (.int .u8 m) rfl ?c1 rfl ?c3 ?c5 ?_)
          case c1 => simp
          case c3 => have := HF.out; omega
          case c5 => have := HW.out.size; simp; omega
          intro v' w2 hown' hgrow
          obtain ⟨A', c', rfl⟩ := own_shape hown'
          have HO2 := Aside0.mk hown'
          have HW2 : Aside0 (Below w.heap.size w w2) := ⟨(HW.out.alloc HW.out.size _).grown hgrow (by have := HW.out.size; simp; omega) (fun k hk => (HO.out.lt k hk).1)⟩
          clear hown' hgrow
          go_wp2
          go_roundw
          case rel => exact ⟨i + 1, acc ++ [UInt8.ofNat m.toNat], A', c', by omega, by omega, rfl, by simp, ⟨by rw [← HS.out, HD.out]⟩, ⟨by have := HO2.out; rw [cells_snoc, ← low_byte m hm0 hge, Int.emod_eq_of_lt hm0 (by omega)]; simpa using this⟩, HW2⟩
          case measure => simp [intOf]; omega
        · have hdiv : wrap64 (m.tdiv 128) = m / 128 := by rw [Int.tdiv_eq_ediv_of_nonneg hm0]; exact IntWalk.wrap64_in _ (by omega)
          go_wp2_with (at_builtin; refine App1.wpList_append_one _ rfl _ _ 40 rfl w.heap.size 5 i0 (.int .u8 0) Try.underlying40 hI0 hz0 hz1 hz2 rfl _ _ _ rfl (HO.out.alloc _) ⟨wr.heap.size, 0, none⟩ 1 (.int .u8 (m % 128 + 128)) rfl ?c1 rfl ?c3 ?c5 ?_)
          case c3 => have := HF.out; omega
          case c5 => have := HW.out.size; simp; omega
          intro v' w2 hown' hgrow
          obtain ⟨A', c', rfl⟩ := own_shape hown'
          have HO2 := Aside0.mk hown'
          have HW2 : Aside0 (Below w.heap.size w w2) := ⟨(HW.out.alloc HW.out.size _).grown hgrow (by have := HW.out.size; simp; omega) (fun k hk => (HO.out.lt k hk).1)⟩
          clear hown' hgrow
          go_wp2
          go_roundw
          case rel => exact ⟨m / 128, acc ++ [UInt8.ofNat (m.toNat % 128 + 128)], A', c', by omega, by omega, rfl, by simp, ⟨by rw [← HS.out, digits_ge (n := m.toNat) (by omega), List.append_assoc, show (m / 128).toNat = m.toNat / 128 from by omega]; rfl⟩, ⟨by have := HO2.out; rw [cells_snoc, ← high_byte m hm0]; simpa using this⟩, HW2⟩
          case measure => simp [intOf, hdiv]; omega
    · have hcv := str_own HO.out rfl
      go_wp2
      go_ret
      have e2 : l.take i.toNat = l := List.take_of_length_le (by omega)
      exact ⟨by rw [HA0.out, e2]; rfl, HW.out⟩
end Go.Proofs.Ytcdndnebmonlfaa.RPut
namespace Go.Proofs.Ytcdndnebmonlfaa
open Go.RowKit Go.Proofs.YtcdndnebmonlfaaW.PrintWords
/-- The reference's Put as a plain function; 'none' only where a number is no int64, or the bytes would take more than 211106232532992 bytes. -/
def stevedoreref01_Put.f (l0 : List Int) : Option (ByteArray) := if (Put.putAll l0).length ≤ 211106232532992 ∧ (l0.all fun x => decide (x ≤ 9223372036854775807)) = true then some ⟨(Put.putAll l0).toArray⟩ else none
theorem stevedoreref01_Put.calls (A0 : Option Addr) (c0 : Nat) (l0 : List Int) (r : ByteArray) (w : World) (hr0 : Kd.C (Kd.int .i64) w A0 l0.length l0) (hc0 : l0.length ≤ c0) (h : stevedoreref01_Put.f l0 = some r) :
    Calls Try.prog 13 #[.slice A0 l0.length c0] w fun e w' => e = .returned (.string r) ∧ Below w.heap.size w w' := by
  unfold stevedoreref01_Put.f at h
  by_cases hl : (Put.putAll l0).length ≤ 211106232532992 ∧ (l0.all fun x => decide (x ≤ 9223372036854775807)) = true
  · rw [if_pos hl] at h
    obtain rfl := Option.some.inj h
    exact RPut.rput_any A0 c0 l0 w hr0 hc0 hl.1 (fun x hx => of_decide_eq_true (List.all_eq_true.1 hl.2 x hx))
  · rw [if_neg hl] at h; cases h
end Go.Proofs.Ytcdndnebmonlfaa
