/- What a snapshot's sector is: (slots.part).sector, walked. Condition: at most 53 bytes. -/
import Derived.Test.YtojehachhfcfaaaBig
import Derived.Test.YtojehachhfcfaaaWWords
import Derived.Test.YtojehachhfcfaaaWMore
import Derived.Test.YtojehachhfcfaaaWLast
import Derived.RegionTactic
import Derived.RegionCalls
import Derived.BigRegion
import Derived.Deep.RegionLaw
import Derived.Deep.RegionWith
import Derived.Lib.ItoaWalk
set_option linter.unusedVariables false
set_option linter.unusedSimpArgs false
namespace Go.Proofs.Ytojehachhfcfaaa.SlSect
open Go.RowKit Go.Proofs.Ytojehachhfcfaaa.SumPure Go.Proofs.Ytojehachhfcfaaa.Arr Go.Proofs.Ytojehachhfcfaaa.Big Go.Proofs.YtojehachhfcfaaaW.PrintWords

def head (n p q : Int) (d : List UInt8) : List UInt8 := [b8 (n / 16777216), b8 (n / 65536), b8 (n / 256), b8 n, b8 (p / 256), b8 p, b8 (q / 256), b8 q, b8 d.length]
/-- A sector's bytes ahead of its check. -/
def body (n p q : Int) (d : List UInt8) : List UInt8 := head n p q d ++ d ++ List.replicate (53 - d.length) 0
def sect (n p q : Int) (d : List UInt8) : List UInt8 := body n p q d ++ [b8 (sumL 1 (body n p q d) / 256), b8 (sumL 1 (body n p q d))]
theorem body_len (n p q : Int) (d : List UInt8) (h : d.length ≤ 53) : (body n p q d).length = 62 := by
  simp [body, head]; omega
theorem sect_len (n p q : Int) (d : List UInt8) (h : d.length ≤ 53) : (sect n p q d).length = 64 := by
  simp only [sect, List.length_append, body_len n p q d h]; rfl
theorem keepP {w1 w2 : World} {A B m : Nat} {o : Obj} (h : w1.heap[A]? = some o) (f : Med.Frame (fun i => i = B) (w1.drewN m) w2) (hne : A ≠ B) : w2.heap[A]? = some o :=
  (f.block A (Array.getElem?_eq_some_iff.1 h).1 hne).trans h
theorem keepB {w w1 w2 : World} {A B m : Nat} (h : Below A w w1) (f : Med.Frame (fun i => i = B) (w1.drewN m) w2) (hs : w1.heap.size ≥ A) (hB : A ≤ B) : Below A w w2 :=
  h.trans ⟨f.os, f.tape, f.output, f.size, fun i hi => f.block i (by show i < w1.heap.size; omega) (by omega)⟩
def z64 : List UInt8 := List.replicate 64 0

set_option maxHeartbeats 8000000 in
set_option maxRecDepth 100000 in
theorem sector_any (n p q : Int) (d : ByteArray) (w : World) (hd : d.size ≤ 53) :
    Calls Try.prog 49 #[.agg #[.int .i64 n, .int .i64 p, .int .i64 q, .string d]] w fun e w' => e = .returned (.string ⟨(sect n p q d.data.toList).toArray⟩) ∧ Below w.heap.size w w' := by
  go_enter Try.func49, Try.ntmps49
  go_upto_region 2 with (fail)
  go_name_world w1 hw1
  have HA : Aside0 (Arr.Is w1 (w.heap.size + 1) 102 (ints z64)) := ⟨by
    rw [← hw1]
    unfold Arr.Is
    rw [show w.heap.size + 1 = (w.alloc (.cells #[.int .i64 n, .int .i64 p, .int .i64 q, .string d] 85)).heap.size from by simp]
    exact heap_alloc_new _ _⟩
  have HP : Aside0 (w1.heap[w.heap.size]? = some (.cells #[.int .i64 n, .int .i64 p, .int .i64 q, .string d] 85 (0, 0))) := ⟨by
    rw [← hw1, Below.heap_alloc _ _ _ (by simp)]; exact heap_alloc_new w _⟩
  have HF : Aside0 (Below w.heap.size w w1) := ⟨by rw [← hw1]; exact ((Below.refl _ w).alloc (Nat.le_refl _) _).alloc (by simp) _⟩
  clear hw1
  have c0 : w1.cell? ⟨w.heap.size, 0, none⟩ = some (.int .i64 n) := by have := HP.out; simp [World.cell?, this]
  have hc1 : ∀ m, Calls Try.prog 61 #[.slice (some ⟨w.heap.size + 1, 0, none⟩) 4 64, .int .i64 n] (w1.drewN m) fun e w' => e = .returned (.tuple #[]) ∧ Arr.Is w' (w.heap.size + 1) 102 (ints (big4L z64 0 n 4)) ∧ Med.Frame (fun i => i = w.heap.size + 1) (w1.drewN m) w' := fun m => big4_calls (w := w1.drewN m) HA.out 0 64 (by decide) (by decide) (by omega) n
  go_wp2
  go_region_with (go_at_call 61; refine (hc1 1).mono ?_; rintro e w2 ⟨rfl, ha2, hf2⟩)
  have HA2 := Aside0.mk ha2
  have HP2 := Aside0.mk (keepP (m := 1) HP.out hf2 (by omega))
  have HB2 := Aside0.mk (keepB (m := 1) HF.out hf2 (HF.out.size) (by omega))
  clear HA HP HF hc1 c0 ha2 hf2
  have c1 : w2.cell? ⟨w.heap.size, 1, none⟩ = some (.int .i64 p) := by have := HP2.out; simp [World.cell?, this]
  have hc2 : ∀ m, Calls Try.prog 61 #[.slice (some ⟨w.heap.size + 1, 4, none⟩) 2 60, .int .i64 p] (w2.drewN m) fun e w' => e = .returned (.tuple #[]) ∧ Arr.Is w' (w.heap.size + 1) 102 (ints (big2L (big4L z64 0 n 4) 4 p 2)) ∧ Med.Frame (fun i => i = w.heap.size + 1) (w2.drewN m) w' := fun m => big2_calls (w := w2.drewN m) HA2.out 4 60 (by rw [big4L_len]; decide) (by rw [big4L_len]; decide) (by omega) p
  go_wp2
  go_region_with (go_at_call 61; refine (hc2 1).mono ?_; rintro e w3 ⟨rfl, ha3, hf3⟩)
  have HA3 := Aside0.mk ha3
  have HP3 := Aside0.mk (keepP (m := 1) HP2.out hf3 (by omega))
  have HB3 := Aside0.mk (keepB (m := 1) HB2.out hf3 (HB2.out.size) (by omega))
  clear HA2 HP2 HB2 hc2 c1 ha3 hf3
  have c2 : w3.cell? ⟨w.heap.size, 2, none⟩ = some (.int .i64 q) := by have := HP3.out; simp [World.cell?, this]
  have hc3 : ∀ m, Calls Try.prog 61 #[.slice (some ⟨w.heap.size + 1, 6, none⟩) 2 58, .int .i64 q] (w3.drewN m) fun e w' => e = .returned (.tuple #[]) ∧ Arr.Is w' (w.heap.size + 1) 102 (ints (big2L (big2L (big4L z64 0 n 4) 4 p 2) 6 q 2)) ∧ Med.Frame (fun i => i = w.heap.size + 1) (w3.drewN m) w' := fun m => big2_calls (w := w3.drewN m) HA3.out 6 58 (by rw [big2L_len, big4L_len]; decide) (by rw [big2L_len, big4L_len]; decide) (by omega) q
  go_wp2
  go_region_with (go_at_call 61; refine (hc3 1).mono ?_; rintro e w4 ⟨rfl, ha4, hf4⟩)
  obtain ⟨L4, hL4⟩ : ∃ L, L = big2L (big2L (big4L z64 0 n 4) 4 p 2) 6 q 2 := ⟨_, rfl⟩
  rw [← hL4] at ha4
  have HL4 := Aside0.mk hL4
  have hlen4 : (ints L4).length = 64 := by rw [ints_len, hL4, big2L_len, big2L_len, big4L_len]; rfl
  clear hL4
  have HA4 := Aside0.mk ha4
  have HP4 := Aside0.mk (keepP (m := 1) HP3.out hf4 (by omega))
  have HB4 := Aside0.mk (keepB (m := 1) HB3.out hf4 (HB3.out.size) (by omega))
  clear HA3 HP3 HB3 hc3 c2 ha4 hf4
  have c3 : w4.cell? ⟨w.heap.size, 3, none⟩ = some (.string d) := by have := HP4.out; simp [World.cell?, this]
  have ca8 := HA4.out.cell 8 (by omega)
  have cf8 := HA4.out.frozen 8
  clear hlen4
  go_upto_region 6 with (fail)
  go_name_world w5 hw5
  have hdl : d.data.toList.length = d.size := by simp
  have HL5 : Aside0 (L4.set 8 (b8 (d.size : Int)) = head n p q d.data.toList ++ List.replicate 55 0) := ⟨by rw [HL4.out]; unfold head; rw [hdl]; rfl⟩
  have HA5 : Aside0 (Arr.Is w5 (w.heap.size + 1) 102 (ints (head n p q d.data.toList ++ List.replicate 55 0))) := ⟨by
    rw [← hw5, ← HL5.out]; exact HA4.out.setV 8 (d.size : Int) (by omega) (by omega)⟩
  have HP5 : Aside0 (w5.heap[w.heap.size]? = some (.cells #[.int .i64 n, .int .i64 p, .int .i64 q, .string d] 85 (0, 0))) := ⟨by
    rw [← hw5]; exact Arr.heap_setCell HP4.out _ _ (by simp)⟩
  have HB5 : Aside0 (Below w.heap.size w w5) := ⟨by rw [← hw5]; exact HB4.out.setCell (by simp) _⟩
  have HS5 : Aside0 (w.heap.size + 1 < w5.heap.size) := ⟨HA5.out.lt⟩
  clear hw5 HA4 HP4 HB4 HL4 HL5 c3 ca8 cf8
  have d3 : w5.cell? ⟨w.heap.size, 3, none⟩ = some (.string d) := by have := HP5.out; simp [World.cell?, this]
  have hcs : Aside0 (∀ j, j < d.size → (w5.drew.cell? ⟨w.heap.size + 1, 9 + j, none⟩).isSome = true) := ⟨fun j hj => by
    rw [show w5.drew.cell? ⟨w.heap.size + 1, 9 + j, none⟩ = w5.cell? ⟨w.heap.size + 1, 9 + j, none⟩ from rfl, HA5.out.cell (9 + j) (by rw [ints_len]; simp [head]; omega)]; rfl⟩
  have hfs : Aside0 (∀ j, j < d.size → w5.drew.frozen? ⟨w.heap.size + 1, 9 + j, none⟩ = false) := ⟨fun j hj => HA5.out.frozen (9 + j)⟩
  clear hdl
  go_wp2
  go_region_law (refine Go.step_copy_string rfl (.tmp 21) (.tmp 23) 74 9 rfl 5 Try.underlying74 Try.sizeOf5 (w.heap.size + 1) 9 55 55 (by simp [Act.eval, Act.put]) d (by simp [Act.eval, Act.put]) (by omega) hcs.out hfs.out ?_)
  have HA6 : Aside0 (Arr.Is (w5.drew.setCells (w.heap.size + 1) 9 (d.data.toList.map fun x => Value.int .u8 (x.toNat : Int))) (w.heap.size + 1) 102 (ints (body n p q d.data.toList ++ [0, 0]))) := ⟨by
    have hdl : d.data.toList.length = d.size := by simp
    have h := Is.setCells d.data.toList 9 HA5.out.drew (by rw [ints_len, hdl]; simp [head]; omega)
    rw [show List.take 9 (ints (head n p q d.data.toList ++ List.replicate 55 0)) ++ ints d.data.toList ++ List.drop (9 + d.data.toList.length) (ints (head n p q d.data.toList ++ List.replicate 55 0)) = ints (body n p q d.data.toList ++ [0, 0]) from ?_] at h
    · exact h
    · have e1 : List.drop (9 + d.data.toList.length) (ints (head n p q d.data.toList ++ List.replicate 55 0)) = ints (List.replicate (55 - d.data.toList.length) 0) := by
        rw [← List.drop_drop]
        show List.drop d.data.toList.length (ints (List.replicate 55 0)) = _
        unfold ints
        rw [← List.map_drop, List.drop_replicate]
      have e2 : List.take 9 (ints (head n p q d.data.toList ++ List.replicate 55 0)) = ints (head n p q d.data.toList) := rfl
      rw [e1, e2, ← ints_append, ← ints_append]
      unfold body
      rw [show (55 - d.data.toList.length) = (53 - d.data.toList.length) + 2 from by omega, ← List.replicate_append_replicate, List.append_assoc, List.append_assoc, List.append_assoc]
      rfl⟩
  have HB6 : Aside0 (Below w.heap.size w (w5.drew.setCells (w.heap.size + 1) 9 (d.data.toList.map fun x => Value.int .u8 (x.toNat : Int)))) := ⟨below_setCells (by omega) _ 9 _ HB5.out.drew⟩
  obtain ⟨w6, hw6⟩ : ∃ x, x = w5.drew.setCells (w.heap.size + 1) 9 (d.data.toList.map fun x => Value.int .u8 (x.toNat : Int)) := ⟨_, rfl⟩
  rw [← hw6] at HA6 HB6 ⊢
  clear hw6 HA5 HP5 HB5 HS5 hcs hfs d3
  have HDL : Aside0 (d.data.toList.length ≤ 53) := ⟨by rw [show d.data.toList.length = d.size from by simp]; exact hd⟩
  have HBL := Aside0.mk (body_len n p q d.data.toList HDL.out)
  obtain ⟨s, hs⟩ : ∃ s : ByteArray, s = ⟨(body n p q d.data.toList).toArray⟩ := ⟨_, rfl⟩
  have hcv : (convert 74 9 (.slice (some ⟨w.heap.size + 1, 0, none⟩) 62 64)).run Try.prog w6.drew = .ok (.string s) w6.drew := by
    have h := Is.string (P := Try.prog) HA6.out.drew Try.underlying74 Try.underlying5 Try.underlying9 62 64 (by rw [List.length_append, HBL.out]; simp) (by rw [List.length_append, HBL.out]; simp)
    rw [List.take_append_of_le_length (by rw [HBL.out]; omega), List.take_of_length_le (by rw [HBL.out]; omega), ← hs] at h
    exact h
  obtain ⟨m, hm⟩ : ∃ m, m = sumL 1 (body n p q d.data.toList) := ⟨_, rfl⟩
  have HS : Aside0 (nums_Sum.f 100 s = some m) := ⟨by
    rw [nums_Sum_at s (by rw [hs, size_mk, HBL.out]; omega) (by rw [hs, size_mk, HBL.out]; omega), hs, hm]⟩
  have HM := Aside0.mk hm
  clear hs hm
  have hc4 : ∀ nd, Calls Try.prog 61 #[.slice (some ⟨w.heap.size + 1, 62, none⟩) 2 2, .int .i64 m] (w6.drewN nd) fun e w' => e = .returned (.tuple #[]) ∧ Arr.Is w' (w.heap.size + 1) 102 (ints (big2L (body n p q d.data.toList ++ [0, 0]) 62 m 2)) ∧ Med.Frame (fun i => i = w.heap.size + 1) (w6.drewN nd) w' := fun nd => big2_calls (w := w6.drewN nd) (show Arr.Is _ _ _ _ from HA6.out) 62 2 (by rw [List.length_append, HBL.out]; decide) (by rw [List.length_append, HBL.out]; decide) (by omega) m
  go_wp2
  go_region_with (first | (go_at_call 58; refine (nums_Sum.calls 100 _ _ _ HS.out).mono ?_; rintro e w9 ⟨rfl, hdr⟩; obtain ⟨nd, hdr⟩ := hdr.out; subst hdr) | (go_at_call 61; refine (hc4 _).mono ?_; rintro e w7 ⟨rfl, ha7, hf7⟩))
  have HB7 := Aside0.mk (keepB HB6.out hf7 HB6.out.size (by omega))
  have hfin : (convert 74 9 (.slice (some ⟨w.heap.size + 1, 0, none⟩) 64 64)).run Try.prog w7 = .ok (.string ⟨(sect n p q d.data.toList).toArray⟩) w7 := by
    have e : big2L (body n p q d.data.toList ++ [0, 0]) 62 m 2 = sect n p q d.data.toList := by
      show ((body n p q d.data.toList ++ [0, 0]).set 62 (b8 (m / 256))).set (62 + 1) (b8 m) = _
      unfold sect
      rw [← HM.out, List.set_append_right _ _ (by rw [HBL.out]; omega), HBL.out, List.set_append_right _ _ (by rw [HBL.out]; omega), HBL.out]
      rfl
    rw [e] at ha7
    have h2 := Is.string (P := Try.prog) ha7 Try.underlying74 Try.underlying5 Try.underlying9 64 64 (by rw [sect_len _ _ _ _ HDL.out]; omega) (by rw [sect_len _ _ _ _ HDL.out]; omega)
    rw [List.take_of_length_le (by rw [sect_len _ _ _ _ HDL.out]; omega)] at h2
    exact h2
  clear ha7 hf7 hc4 hcv HA6 HB6 HS HM HBL HDL
  go_wp2
  go_ret
  exact ⟨rfl, HB7.out⟩
end Go.Proofs.Ytojehachhfcfaaa.SlSect
namespace Go.Proofs.Ytojehachhfcfaaa
open Go.RowKit Go.Proofs.YtojehachhfcfaaaW.PrintWords
/-- The sector as a plain function; 'none' only where a part has more than 53 bytes. -/
def slots_part_sector.f (a0_0 : Int) (a0_1 : Int) (a0_2 : Int) (a0_3 : ByteArray) : Option (ByteArray) := if a0_3.size ≤ 53 then some ⟨(SlSect.sect a0_0 a0_1 a0_2 a0_3.data.toList).toArray⟩ else none
end Go.Proofs.Ytojehachhfcfaaa
