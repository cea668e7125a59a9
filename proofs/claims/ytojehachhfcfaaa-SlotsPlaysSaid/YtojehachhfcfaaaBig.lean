/- A number's bytes, laid into a part of an array: slots.big at four bytes, and at two. -/
import Derived.Test.YtojehachhfcfaaaArr
import Derived.Test.YtojehachhfcfaaaMedW
import Derived.RegionTactic
import Derived.BigRegion
import Derived.Deep.RegionLaw
set_option linter.unusedVariables false
set_option linter.unusedSimpArgs false
namespace Go.Proofs.Ytojehachhfcfaaa.Big
open Go.RowKit Go.Proofs.Ytojehachhfcfaaa.SumPure Go.Proofs.Ytojehachhfcfaaa.Arr Go.Proofs.Ytojehachhfcfaaa.Med Go.Proofs.YtojehachhfcfaaaW.PrintWords
theorem frame_set {own : Nat → Prop} {w : World} {B : Nat} (h : own B) (i : Nat) (v : Value) : Med.Frame own w (w.setCell ⟨B, i, none⟩ v) := ⟨rfl, rfl, rfl, by simp, fun j _ hj => heap_set_ne (fun e => hj (by rw [e]; exact h)) i v⟩
def big4L (l : List UInt8) (off : Nat) (n : Int) : Nat → List UInt8
  | 0 => l
  | 1 => (l).set off (b8 (n / 16777216))
  | 2 => ((l).set off (b8 (n / 16777216))).set (off + 1) (b8 (n / 65536))
  | 3 => (((l).set off (b8 (n / 16777216))).set (off + 1) (b8 (n / 65536))).set (off + 2) (b8 (n / 256))
  | _ => ((((l).set off (b8 (n / 16777216))).set (off + 1) (b8 (n / 65536))).set (off + 2) (b8 (n / 256))).set (off + 3) (b8 (n))
theorem big4L_len (l : List UInt8) (off : Nat) (n : Int) (i : Nat) : (big4L l off n i).length = l.length := by
  unfold big4L; split <;> simp
set_option maxHeartbeats 8000000 in
set_option maxRecDepth 100000 in
theorem big4_calls {w : World} {B : Nat} {T : TypeId} {l : List UInt8} (h : Arr.Is w B T (ints l)) (off c : Nat) (ho : off + 4 ≤ l.length) (hl : l.length ≤ 1000) (hc : 4 ≤ c) (n : Int) :
    Calls Try.prog 61 #[.slice (some ⟨B, off, none⟩) 4 c, .int .i64 n] w fun e w' => e = .returned (.tuple #[]) ∧ Arr.Is w' B T (ints (big4L l off n 4)) ∧ Med.Frame (fun i => i = B) w w' := by
  have HA0 := Aside0.mk h
  clear h
  go_enter Try.func61, Try.ntmps61
  go_wp2
  go_loopw [7] (fun v7 wr => ∃ i : Nat, i ≤ 4 ∧ v7 = .int .i64 i ∧ Aside0 (Arr.Is wr B T (ints (big4L l off n i))) ∧ Aside0 (Med.Frame (fun i => i = B) w wr)) (fun v7 _ => 4 - (intOf v7).toNat)
  case atStart => exact ⟨0, by omega, rfl, ⟨HA0.out⟩, ⟨Med.Frame.refl _ _⟩⟩
  case round =>
    obtain ⟨i, hi, rfl, HA, HF⟩ := hrel
    by_cases hlt : i < 4
    · have ca := HA.out.cell (off + i) (by rw [ints_len, big4L_len]; omega)
      have cf := HA.out.frozen (off + i)
      rcases (show i = 0 ∨ i = 1 ∨ i = 2 ∨ i = 3 from by omega) with rfl | rfl | rfl | rfl
      · rw [Nat.add_zero] at ca cf
        go_wp2
        go_roundw
        case rel => exact ⟨1, by omega, by go_num, ⟨HA.out.set8 (off + 0) (n / 16777216)⟩, ⟨HF.out.trans (frame_set (own := fun i => i = B) rfl _ _) (fun j hj => .inl hj)⟩⟩
        case measure => simp [intOf]
      · go_wp2
        go_roundw
        case rel => exact ⟨2, by omega, by go_num, ⟨HA.out.set8 (off + 1) (n / 65536)⟩, ⟨HF.out.trans (frame_set (own := fun i => i = B) rfl _ _) (fun j hj => .inl hj)⟩⟩
        case measure => simp [intOf]
      · go_wp2
        go_roundw
        case rel => exact ⟨3, by omega, by go_num, ⟨HA.out.set8 (off + 2) (n / 256)⟩, ⟨HF.out.trans (frame_set (own := fun i => i = B) rfl _ _) (fun j hj => .inl hj)⟩⟩
        case measure => simp [intOf]
      · go_wp2
        go_roundw
        case rel => exact ⟨4, by omega, by go_num, ⟨HA.out.set8 (off + 3) (n)⟩, ⟨HF.out.trans (frame_set (own := fun i => i = B) rfl _ _) (fun j hj => .inl hj)⟩⟩
        case measure => simp [intOf]
    · obtain rfl : i = 4 := by omega
      go_wp2
      go_end0
      exact ⟨rfl, HA.out, HF.out⟩
def big2L (l : List UInt8) (off : Nat) (n : Int) : Nat → List UInt8
  | 0 => l
  | 1 => (l).set off (b8 (n / 256))
  | _ => ((l).set off (b8 (n / 256))).set (off + 1) (b8 (n))
theorem big2L_len (l : List UInt8) (off : Nat) (n : Int) (i : Nat) : (big2L l off n i).length = l.length := by
  unfold big2L; split <;> simp
set_option maxHeartbeats 8000000 in
set_option maxRecDepth 100000 in
theorem big2_calls {w : World} {B : Nat} {T : TypeId} {l : List UInt8} (h : Arr.Is w B T (ints l)) (off c : Nat) (ho : off + 2 ≤ l.length) (hl : l.length ≤ 1000) (hc : 2 ≤ c) (n : Int) :
    Calls Try.prog 61 #[.slice (some ⟨B, off, none⟩) 2 c, .int .i64 n] w fun e w' => e = .returned (.tuple #[]) ∧ Arr.Is w' B T (ints (big2L l off n 2)) ∧ Med.Frame (fun i => i = B) w w' := by
  have HA0 := Aside0.mk h
  clear h
  go_enter Try.func61, Try.ntmps61
  go_wp2
  go_loopw [7] (fun v7 wr => ∃ i : Nat, i ≤ 2 ∧ v7 = .int .i64 i ∧ Aside0 (Arr.Is wr B T (ints (big2L l off n i))) ∧ Aside0 (Med.Frame (fun i => i = B) w wr)) (fun v7 _ => 2 - (intOf v7).toNat)
  case atStart => exact ⟨0, by omega, rfl, ⟨HA0.out⟩, ⟨Med.Frame.refl _ _⟩⟩
  case round =>
    obtain ⟨i, hi, rfl, HA, HF⟩ := hrel
    by_cases hlt : i < 2
    · have ca := HA.out.cell (off + i) (by rw [ints_len, big2L_len]; omega)
      have cf := HA.out.frozen (off + i)
      rcases (show i = 0 ∨ i = 1 from by omega) with rfl | rfl
      · rw [Nat.add_zero] at ca cf
        go_wp2
        go_roundw
        case rel => exact ⟨1, by omega, by go_num, ⟨HA.out.set8 (off + 0) (n / 256)⟩, ⟨HF.out.trans (frame_set (own := fun i => i = B) rfl _ _) (fun j hj => .inl hj)⟩⟩
        case measure => simp [intOf]
      · go_wp2
        go_roundw
        case rel => exact ⟨2, by omega, by go_num, ⟨HA.out.set8 (off + 1) (n)⟩, ⟨HF.out.trans (frame_set (own := fun i => i = B) rfl _ _) (fun j hj => .inl hj)⟩⟩
        case measure => simp [intOf]
    · obtain rfl : i = 2 := by omega
      go_wp2
      go_end0
      exact ⟨rfl, HA.out, HF.out⟩
end Go.Proofs.Ytojehachhfcfaaa.Big
