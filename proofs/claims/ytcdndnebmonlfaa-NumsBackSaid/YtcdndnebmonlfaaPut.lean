/- What nums.Put answers: the bytes of the numbers, at any numbers whose bytes take at most 211106232532992 bytes together. -/
import Derived.Test.YtcdndnebmonlfaaBld
import Derived.Test.YtcdndnebmonlfaaShelf
import Derived.Test.YtcdndnebmonlfaaWWords
import Derived.Test.YtcdndnebmonlfaaWMore
import Derived.Test.YtcdndnebmonlfaaWLast
import Derived.Laws.BitsAllLaws
set_option linter.unusedVariables false
namespace Go.Proofs.Ytcdndnebmonlfaa.Put
open Go.RowKit Go.Proofs.YtcdndnebmonlfaaW.PrintWords Go.Proofs.YtcdndnebmonlfaaW.PrintLast Go.Proofs.YtcdndnebmonlfaaW.PrintMore
attribute [local go_sem] max2_int min2_int max_two min_two max_three min_three max_four min_four

/-- A number's bytes. -/
def digits (n : Nat) : List UInt8 := if n < 128 then [UInt8.ofNat n] else UInt8.ofNat (n % 128 + 128) :: digits (n / 128)
  termination_by n
  decreasing_by omega
theorem digits_lt {n : Nat} (h : n < 128) : digits n = [UInt8.ofNat n] := by rw [digits, if_pos h]
theorem digits_ge {n : Nat} (h : ¬ n < 128) : digits n = UInt8.ofNat (n % 128 + 128) :: digits (n / 128) := by rw [digits, if_neg h]
def putAll (l : List Int) : List UInt8 := l.flatMap fun n => digits n.toNat
theorem putAll_snoc (l : List Int) (i : Nat) (h : i < l.length) : putAll (l.take (i + 1)) = putAll (l.take i) ++ digits (l.getD i 0).toNat := by
  unfold putAll
  rw [List.take_succ_eq_append_getElem h, List.flatMap_append]
  simp [List.getD_eq_getElem?_getD, h]
theorem putAll_le (l : List Int) (i : Nat) : (putAll (l.take i)).length ≤ (putAll l).length := by
  have h : putAll l = putAll (l.take i) ++ putAll (l.drop i) := by unfold putAll; rw [← List.flatMap_append, List.take_append_drop]
  rw [h, List.length_append]; omega

theorem digits_len (n : Nat) : 1 ≤ (digits n).length := by
  by_cases h : n < 128
  · rw [digits_lt h]; simp
  · rw [digits_ge h]; simp

theorem cells_snoc (a : List UInt8) (b : UInt8) : Lib.byteCells (a ++ [b]) = Lib.byteCells a ++ [.int .u8 (b.toNat : Int)] := by simp [Lib.byteCells]
theorem low_byte (m : Int) (h0 : 0 ≤ m) (h : m < 128) : m % 256 = ((UInt8.ofNat m.toNat).toNat : Int) := by
  have : (UInt8.ofNat m.toNat).toNat = m.toNat % 256 := by simp
  rw [this]; omega
theorem high_byte (m : Int) (h0 : 0 ≤ m) : m % 128 + 128 = ((UInt8.ofNat (m.toNat % 128 + 128)).toNat : Int) := by
  have : (UInt8.ofNat (m.toNat % 128 + 128)).toNat = (m.toNat % 128 + 128) % 256 := by simp
  rw [this]; omega

theorem or128 (m : Int) : bits .or .u8 (m % 256) 128 = m % 128 + 128 := by
  rw [u8_or _ _ (by omega) (by omega) (by omega) (by omega)]
  have h : ∀ n : Fin 256, (n.val ||| 128) = n.val % 128 + 128 := by decide +kernel
  have h1 := h ⟨(m % 256).toNat, by omega⟩
  simp only at h1
  show (((m % 256).toNat ||| 128 : Nat) : Int) = _
  rw [h1]
  omega

set_option maxHeartbeats 2000000 in
set_option maxRecDepth 100000 in
theorem put_any (A0 : Option Addr) (c0 : Nat) (l : List Int) (w : World) (hr : Kd.C (Kd.int .i64) w A0 l.length l) (hc : l.length ≤ c0) (hl : (putAll l).length ≤ 211106232532992) :
    Calls Try.prog 12 #[.slice A0 l.length c0] w fun e w' => e = .returned (.string ⟨(putAll l).toArray⟩) ∧ Below w.heap.size w w' := by
  have hmx : l.length ≤ 9223372036854775807 := (Kd.reads_of_C (enc := Value.int .i64) (d := (0 : Int)) (h1 := fun _ => rfl) hr).2.1
  have HR := Aside0.mk hr
  have HC := Aside0.mk hc
  have HL := Aside0.mk hl
  clear hr hc hl
  go_enter Try.func12, Try.ntmps12
  go_wp2
  go_loopw [8] (fun v8 wr => ∃ i : Int, 0 ≤ i ∧ i ≤ (l.length : Int) ∧ v8 = .int .i64 i ∧ Aside0 (Lib.IsBuilder 42 5 w.heap.size w.heap.size (Lib.byteCells (putAll (l.take i.toNat))) wr) ∧ Aside0 (Below w.heap.size w wr)) (fun v8 _ => l.length - (intOf v8).toNat)
  case atStart => exact ⟨0, by omega, by omega, rfl, ⟨Lib.fresh_isBuilder 42 5 w⟩, ⟨(Below.refl _ w).alloc (Nat.le_refl _) _⟩⟩
  case round =>
    obtain ⟨i, hi0, hi, rfl, HB, HW⟩ := hrel
    by_cases hlt : i < (l.length : Int)
    · obtain ⟨ad, e1, hx⟩ := Kd.at_int HR.out i hi0 hlt
      cases e1
      replace hx := (HW.out.cell (World.block_lt_of_cell? w _ hx)).trans hx
      obtain ⟨z, hz⟩ : ∃ z, z = rd l i := ⟨_, rfl⟩
      rw [← hz] at hx
      have HZ := Aside0.mk hz
      clear hz
      obtain ⟨m0, hm0⟩ : ∃ m, (if z < 0 then 0 else z) = m := ⟨_, rfl⟩
      have HS : Aside0 (putAll (l.take i.toNat) ++ digits m0.toNat = putAll (l.take (i + 1).toNat)) := ⟨by
        have e2 : (i + 1).toNat = i.toNat + 1 := by omega
        have e3 : (rd l i).toNat = m0.toNat := by rw [← HZ.out, ← hm0]; split <;> omega
        rw [e2, putAll_snoc l i.toNat (by omega), ← e3]; rfl⟩
      have HM : Aside0 (0 ≤ m0) := ⟨by rw [← hm0]; split <;> omega⟩
      have HI : Aside0 ((putAll (l.take (i + 1).toNat)).length ≤ 211106232532992) := ⟨Nat.le_trans (putAll_le l _) HL.out⟩
      go_wp2_with fail
      clear hm0 hx
      obtain ⟨wo, rfl⟩ : ∃ wo : World, wo = wr := ⟨_, rfl⟩
      go_loopw [5] (fun v5 wr => ∃ (m : Int) (acc : List UInt8), 0 ≤ m ∧ v5 = .int .i64 m ∧ Aside0 (acc ++ digits m.toNat = putAll (l.take (i + 1).toNat)) ∧ Aside0 (Lib.IsBuilder 42 5 w.heap.size w.heap.size (Lib.byteCells acc) wr) ∧ Aside0 (Below w.heap.size w wr)) (fun v5 _ => (intOf v5).toNat)
      case atStart => exact ⟨m0, _, HM.out, rfl, HS, HB, HW⟩
      case round =>
        clear HB HW HS HM
        obtain ⟨m, acc, hm0, rfl, HS, HB, HW⟩ := hrel
        by_cases hge : m < 128
        · have HD : Aside0 (digits m.toNat = [UInt8.ofNat m.toNat]) := ⟨digits_lt (by omega)⟩
          go_wp2_with (go_at_call 25; refine (Bld.writeByte w.heap.size w.heap.size _ _ _ HB.out (by have h1 := HS.out; have h2 := HI.out; rw [← h1, List.length_append] at h2; have := digits_len m.toNat; rw [Lib.byteCells_length]; omega) HW.out.size).mono ?_; rintro e w1 ⟨rfl, hb1, hw1⟩; have HB1 := Aside0.mk hb1; have HW1 := Aside0.mk hw1; clear hb1 hw1)
          go_roundw
          case rel => exact ⟨i + 1, by omega, by omega, rfl, ⟨.inr (by rw [← HS.out, HD.out, cells_snoc, ← low_byte m hm0 hge, Int.emod_eq_of_lt hm0 (by omega)]; exact HB1.out)⟩, ⟨HW.out.trans HW1.out⟩⟩
          case measure => simp [intOf]; omega
        · go_wp2_with (go_at_call 25; refine (Bld.writeByte w.heap.size w.heap.size _ _ _ HB.out (by have h1 := HS.out; have h2 := HI.out; rw [← h1, List.length_append] at h2; have := digits_len m.toNat; rw [Lib.byteCells_length]; omega) HW.out.size).mono ?_; rintro e w1 ⟨rfl, hb1, hw1⟩; have HB1 := Aside0.mk hb1; have HW1 := Aside0.mk hw1; clear hb1 hw1)
          go_roundw
          case rel => exact ⟨m / 128, acc ++ [UInt8.ofNat (m.toNat % 128 + 128)], by omega, rfl, ⟨by rw [← HS.out, digits_ge (n := m.toNat) (by omega), List.append_assoc, show (m / 128).toNat = m.toNat / 128 from by omega]; rfl⟩, ⟨.inr (by rw [cells_snoc, ← high_byte m hm0, ← or128]; exact HB1.out)⟩, ⟨HW.out.trans HW1.out⟩⟩
          case measure => simp [intOf]; omega
    · go_wp2_with fail
      refine (Try.Builder_String_any _ _ _ _ HB.out HW.out.size).mono ?_
      rintro e w1 ⟨rfl, hw1⟩
      go_wp2
      go_ret
      have hb := HW.out.trans hw1
      have e2 : l.take i.toNat = l := List.take_of_length_le (by omega)
      rw [e2]
      exact ⟨rfl, hb⟩
end Go.Proofs.Ytcdndnebmonlfaa.Put
namespace Go.Proofs.Ytcdndnebmonlfaa
open Go.RowKit Go.Proofs.YtcdndnebmonlfaaW.PrintWords
/-- nums.Put as a plain function; 'none' only where the bytes would take more than 211106232532992 bytes. -/
def nums_Put.f (l0 : List Int) : Option (ByteArray) := if (Put.putAll l0).length ≤ 211106232532992 then some ⟨(Put.putAll l0).toArray⟩ else none
theorem nums_Put.calls (A0 : Option Addr) (c0 : Nat) (l0 : List Int) (r : ByteArray) (w : World) (hr0 : Kd.C (Kd.int .i64) w A0 l0.length l0) (hc0 : l0.length ≤ c0) (h : nums_Put.f l0 = some r) :
    Calls Try.prog 12 #[.slice A0 l0.length c0] w fun e w' => e = .returned (.string r) ∧ Below w.heap.size w w' := by
  unfold nums_Put.f at h
  by_cases hl : (Put.putAll l0).length ≤ 211106232532992
  · rw [if_pos hl] at h
    obtain rfl := Option.some.inj h
    exact Put.put_any A0 c0 l0 w hr0 hc0 hl
  · rw [if_neg hl] at h; cases h
end Go.Proofs.Ytcdndnebmonlfaa
