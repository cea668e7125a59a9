/- What a part's sector is: (frames.Part).sector, walked. Conditions: at most 55 bytes. -/
import Derived.Test.YtdjcaogffppdhaaArr
import Derived.Test.YtdjcaogffppdhaaWWords
import Derived.Test.YtdjcaogffppdhaaWMore
import Derived.Test.YtdjcaogffppdhaaWLast
import Derived.RegionTactic
import Derived.BigRegion
import Derived.Deep.RegionLaw
set_option linter.unusedVariables false
set_option linter.unusedSimpArgs false
namespace Go.Proofs.Ytdjcaogffppdhaa.Sect
open Go.RowKit Go.Proofs.Ytdjcaogffppdhaa.SumPure Go.Proofs.Ytdjcaogffppdhaa.Arr Go.Proofs.YtdjcaogffppdhaaW.PrintWords

def head (n p q : Int) (d : List UInt8) : List UInt8 := [b8 (n / 16777216), b8 (n / 65536), b8 (n / 256), b8 n, b8 p, b8 q, b8 d.length]
/-- A sector's bytes ahead of its check. -/
def body (n p q : Int) (d : List UInt8) : List UInt8 := head n p q d ++ d ++ List.replicate (55 - d.length) 0
def sect (n p q : Int) (d : List UInt8) : List UInt8 := body n p q d ++ [b8 (sumL 1 (body n p q d) / 256), b8 (sumL 1 (body n p q d))]
theorem body_len (n p q : Int) (d : List UInt8) (h : d.length ≤ 55) : (body n p q d).length = 62 := by
  simp [body, head]; omega
theorem sect_len (n p q : Int) (d : List UInt8) (h : d.length ≤ 55) : (sect n p q d).length = 64 := by
  simp only [sect, List.length_append, body_len n p q d h]; rfl
/-- The number's bytes, as far as they are laid. -/
def hdL (n : Int) : Nat → List UInt8
  | 0 => List.replicate 64 0
  | 1 => [b8 (n / 16777216)] ++ List.replicate 63 0
  | 2 => [b8 (n / 16777216), b8 (n / 65536)] ++ List.replicate 62 0
  | 3 => [b8 (n / 16777216), b8 (n / 65536), b8 (n / 256)] ++ List.replicate 61 0
  | _ => [b8 (n / 16777216), b8 (n / 65536), b8 (n / 256), b8 n] ++ List.replicate 60 0
theorem hdL_len (n : Int) (i : Nat) : (ints (hdL n i)).length = 64 := by
  unfold hdL; split <;> rfl

set_option maxHeartbeats 4000000 in
set_option maxRecDepth 100000 in
theorem sector_any (n p q : Int) (d : ByteArray) (w : World) (hd : d.size ≤ 55) :
    Calls Try.prog 56 #[.agg #[.int .i64 n, .int .i64 p, .int .i64 q, .string d]] w fun e w' => e = .returned (.string ⟨(sect n p q d.data.toList).toArray⟩) ∧ Below w.heap.size w w' := by
  go_enter Try.func56, Try.ntmps56
  go_wp2
  go_loopw [6] (fun v6 wr => ∃ i : Nat, i ≤ 4 ∧ v6 = .int .i64 i ∧ Aside0 (Arr.Is wr (w.heap.size + 1) 111 (ints (hdL n i))) ∧ Aside0 (wr.heap[w.heap.size]? = some (.cells #[.int .i64 n, .int .i64 p, .int .i64 q, .string d] 94 (0, 0))) ∧ Aside0 (Below w.heap.size w wr)) (fun v6 _ => 4 - (intOf v6).toNat)
  case atStart =>
    refine ⟨0, by omega, rfl, ⟨?_⟩, ⟨?_⟩, ⟨((Below.refl _ w).alloc (Nat.le_refl _) _).alloc (by simp) _⟩⟩
    · unfold Arr.Is
      rw [show w.heap.size + 1 = (w.alloc (.cells #[.int .i64 n, .int .i64 p, .int .i64 q, .string d] 94)).heap.size from by simp]
      exact heap_alloc_new _ _
    · rw [Below.heap_alloc _ _ _ (by simp)]; exact heap_alloc_new w _
  case round =>
    obtain ⟨i, hi, rfl, HA, HP, HB⟩ := hrel
    have c0 : wr.cell? ⟨w.heap.size, 0, none⟩ = some (.int .i64 n) := by have := HP.out; simp [World.cell?, this]
    by_cases hlt : i < 4
    · have ca := HA.out.cell i (by rw [hdL_len]; omega)
      have cf := HA.out.frozen i
      rcases (show i = 0 ∨ i = 1 ∨ i = 2 ∨ i = 3 from by omega) with rfl | rfl | rfl | rfl
      · go_wp2
        go_roundw
        case rel => exact ⟨1, by omega, by go_num, ⟨HA.out.set8 0 (n / 16777216)⟩, ⟨Arr.heap_setCell HP.out _ _ (by simp)⟩, ⟨HB.out.setCell (by simp) _⟩⟩
        case measure => simp [intOf]
      · go_wp2
        go_roundw
        case rel => exact ⟨2, by omega, by go_num, ⟨HA.out.set8 1 (n / 65536)⟩, ⟨Arr.heap_setCell HP.out _ _ (by simp)⟩, ⟨HB.out.setCell (by simp) _⟩⟩
        case measure => simp [intOf]
      · go_wp2
        go_roundw
        case rel => exact ⟨3, by omega, by go_num, ⟨HA.out.set8 2 (n / 256)⟩, ⟨Arr.heap_setCell HP.out _ _ (by simp)⟩, ⟨HB.out.setCell (by simp) _⟩⟩
        case measure => simp [intOf]
      · go_wp2
        go_roundw
        case rel => exact ⟨4, by omega, by go_num, ⟨HA.out.set8 3 (n)⟩, ⟨Arr.heap_setCell HP.out _ _ (by simp)⟩, ⟨HB.out.setCell (by simp) _⟩⟩
        case measure => simp [intOf]
    · have c1 : wr.cell? ⟨w.heap.size, 1, none⟩ = some (.int .i64 p) := by have := HP.out; simp [World.cell?, this]
      have c2 : wr.cell? ⟨w.heap.size, 2, none⟩ = some (.int .i64 q) := by have := HP.out; simp [World.cell?, this]
      have c3 : wr.cell? ⟨w.heap.size, 3, none⟩ = some (.string d) := by have := HP.out; simp [World.cell?, this]
      obtain rfl : i = 4 := by omega
      have ca4 := HA.out.cell 4 (by rw [hdL_len]; omega)
      have ca5 := HA.out.cell 5 (by rw [hdL_len]; omega)
      have ca6 := HA.out.cell 6 (by rw [hdL_len]; omega)
      have cf4 := HA.out.frozen 4
      have cf5 := HA.out.frozen 5
      have cf6 := HA.out.frozen 6
      go_wp2
      go_region
      have HA7 := Aside0.mk ((((HA.out.set8 4 p).set8 5 q).setV 6 (d.size : Int) (by omega) (by omega)).drew)
      have HP7 := Aside0.mk (Arr.heap_setCell (Arr.heap_setCell (Arr.heap_setCell HP.out ⟨w.heap.size + 1, 4, none⟩ (.int .u8 (p % 256)) (by simp)) ⟨w.heap.size + 1, 5, none⟩ (.int .u8 (q % 256)) (by simp)) ⟨w.heap.size + 1, 6, none⟩ (.int .u8 (d.size : Int)) (by simp))
      have HB7 := Aside0.mk ((((HB.out.setCell (p := ⟨w.heap.size + 1, 4, none⟩) (by simp) (.int .u8 (p % 256))).setCell (p := ⟨w.heap.size + 1, 5, none⟩) (by simp) (.int .u8 (q % 256))).setCell (p := ⟨w.heap.size + 1, 6, none⟩) (by simp) (.int .u8 (d.size : Int))).drew)
      clear ca4 ca5 ca6 cf4 cf5 cf6 c0 c1 c2 c3
      obtain ⟨w7, hw7⟩ : ∃ x, x = (((wr.setCell ⟨w.heap.size + 1, 4, none⟩ (.int .u8 (p % 256))).setCell ⟨w.heap.size + 1, 5, none⟩ (.int .u8 (q % 256))).setCell ⟨w.heap.size + 1, 6, none⟩ (.int .u8 (d.size : Int))).drew := ⟨_, rfl⟩
      replace HP7 : Aside0 (w7.heap[w.heap.size]? = some (.cells #[.int .i64 n, .int .i64 p, .int .i64 q, .string d] 94 (0, 0))) := ⟨by rw [hw7]; exact HP7.out⟩
      rw [← hw7] at HA7 HB7 ⊢
      have d3 : w7.cell? ⟨w.heap.size, 3, none⟩ = some (.string d) := by have := HP7.out; simp [World.cell?, this]
      clear hw7 HA HP HB
      have hcs : Aside0 (∀ j, j < d.size → (w7.drew.cell? ⟨w.heap.size + 1, 7 + j, none⟩).isSome = true) := ⟨fun j hj => by
        rw [show w7.drew.cell? ⟨w.heap.size + 1, 7 + j, none⟩ = w7.cell? ⟨w.heap.size + 1, 7 + j, none⟩ from rfl, HA7.out.cell (7 + j) (by rw [ints_len]; simp [hdL]; omega)]; rfl⟩
      have hfs : Aside0 (∀ j, j < d.size → w7.drew.frozen? ⟨w.heap.size + 1, 7 + j, none⟩ = false) := ⟨fun j hj => HA7.out.frozen (7 + j)⟩
      go_wp2
      go_region_law (refine Go.step_copy_string rfl (.tmp 32) (.tmp 34) 72 9 rfl 5 Try.underlying72 Try.sizeOf5 (w.heap.size + 1) 7 57 57 (by simp [Act.eval, Act.put]) d (by simp [Act.eval, Act.put]) (by omega) hcs.out hfs.out ?_)
      have HA8 : Aside0 (Arr.Is (w7.drew.setCells (w.heap.size + 1) 7 (d.data.toList.map fun x => Value.int .u8 (x.toNat : Int))) (w.heap.size + 1) 111 (ints (body n p q d.data.toList ++ [0, 0]))) := ⟨by
        have hdl : d.data.toList.length = d.size := by simp
        have h := Is.setCells d.data.toList 7 HA7.out.drew (by rw [ints_len, hdl]; simp [hdL]; omega)
        rw [show List.take 7 (ints ((((hdL n 4).set 4 (b8 p)).set 5 (b8 q)).set 6 (b8 (d.size : Int)))) ++ ints d.data.toList ++ List.drop (7 + d.data.toList.length) (ints ((((hdL n 4).set 4 (b8 p)).set 5 (b8 q)).set 6 (b8 (d.size : Int)))) = ints (body n p q d.data.toList ++ [0, 0]) from ?_] at h
        · exact h
        · have e1 : List.drop (7 + d.data.toList.length) (ints ((((hdL n 4).set 4 (b8 p)).set 5 (b8 q)).set 6 (b8 (d.size : Int)))) = ints (List.replicate (57 - d.data.toList.length) 0) := by
            rw [← List.drop_drop]
            show List.drop d.data.toList.length (ints (List.replicate 57 0)) = _
            unfold ints
            rw [← List.map_drop, List.drop_replicate]
          have e2 : List.take 7 (ints ((((hdL n 4).set 4 (b8 p)).set 5 (b8 q)).set 6 (b8 (d.size : Int)))) = ints (head n p q d.data.toList) := by
            unfold head; rw [hdl]; rfl
          rw [e1, e2, ← ints_append, ← ints_append]
          unfold body
          rw [show (57 - d.data.toList.length) = (55 - d.data.toList.length) + 2 from by omega, ← List.replicate_append_replicate, List.append_assoc, List.append_assoc, List.append_assoc]
          rfl⟩
      have HB8 : Aside0 (Below w.heap.size w (w7.drew.setCells (w.heap.size + 1) 7 (d.data.toList.map fun x => Value.int .u8 (x.toNat : Int)))) := ⟨below_setCells (by omega) _ 7 _ HB7.out.drew⟩
      obtain ⟨w8, hw8⟩ : ∃ x, x = w7.drew.setCells (w.heap.size + 1) 7 (d.data.toList.map fun x => Value.int .u8 (x.toNat : Int)) := ⟨_, rfl⟩
      rw [← hw8] at HA8 HB8 ⊢
      clear hw8 HA7 HP7 HB7 hcs hfs d3
      have hdl : d.data.toList.length ≤ 55 := by rw [show d.data.toList.length = d.size from by simp]; exact hd
      have hbl := body_len n p q d.data.toList hdl
      have hcv := Is.string (P := Try.prog) HA8.out Try.underlying72 Try.underlying5 Try.underlying9 62 64 (by rw [List.length_append, hbl]; simp) (by rw [List.length_append, hbl]; simp)
      rw [List.take_append_of_le_length (by omega), List.take_of_length_le (by omega)] at hcv
      obtain ⟨s, hs⟩ : ∃ s : ByteArray, s = ⟨(body n p q d.data.toList).toArray⟩ := ⟨_, rfl⟩
      rw [← hs] at hcv
      have HS : Aside0 (nums_Sum.f 100 s = some (sumL 1 (body n p q d.data.toList))) := ⟨by
        rw [nums_Sum_at s (by rw [hs, size_mk, hbl]; omega) (by rw [hs, size_mk, hbl]; omega), hs]⟩
      have hlen : (ints (body n p q d.data.toList ++ [0, 0])).length = 64 := by rw [ints_len, List.length_append, hbl]; rfl
      have ca62 := HA8.out.cell 62 (by omega)
      have ca63 := HA8.out.cell 63 (by omega)
      have cf62 := HA8.out.frozen 62
      have cf63 := HA8.out.frozen 63
      obtain ⟨m, hm⟩ : ∃ m, m = sumL 1 (body n p q d.data.toList) := ⟨_, rfl⟩
      rw [← hm] at HS
      have hfin : ∀ nd, (convert 72 9 (.slice (some ⟨w.heap.size + 1, 0, none⟩) 64 64)).run Try.prog (((w8.drewN nd).setCell ⟨w.heap.size + 1, 62, none⟩ (.int .u8 (m / 256 % 256))).setCell ⟨w.heap.size + 1, 63, none⟩ (.int .u8 (m % 256))) = .ok (.string ⟨(sect n p q d.data.toList).toArray⟩) (((w8.drewN nd).setCell ⟨w.heap.size + 1, 62, none⟩ (.int .u8 (m / 256 % 256))).setCell ⟨w.heap.size + 1, 63, none⟩ (.int .u8 (m % 256))) := fun nd => by
        have h0 : Arr.Is (w8.drewN nd) (w.heap.size + 1) 111 (ints (body n p q d.data.toList ++ [0, 0])) := HA8.out
        have h1 := (h0.set8 62 (m / 256)).set8 63 m
        have e : ((body n p q d.data.toList ++ [0, 0]).set 62 (b8 (m / 256))).set 63 (b8 m) = sect n p q d.data.toList := by
          unfold sect
          rw [← hm, List.set_append_right _ _ (by omega), hbl, List.set_append_right _ _ (by omega), hbl]
          rfl
        rw [e] at h1
        have h2 := Is.string (P := Try.prog) h1 Try.underlying72 Try.underlying5 Try.underlying9 64 64 (by rw [sect_len _ _ _ _ hdl]; omega) (by rw [sect_len _ _ _ _ hdl]; omega)
        rw [List.take_of_length_le (by rw [sect_len _ _ _ _ hdl]; omega)] at h2
        exact h2
      clear hbl hs hlen hm hdl
      go_wp2_with (go_at_call 62; refine (nums_Sum.calls 100 _ _ _ HS.out).mono ?_; rintro e w9 ⟨rfl, hdr⟩; obtain ⟨nd, hdr⟩ := hdr.out; subst hdr)
      go_ret
      exact ⟨rfl, ((HB8.out.trans (Drawn0.below ⟨⟨_, rfl⟩⟩ |>.mono (by have := HB8.out.size; exact this))).setCell (by simp) _).setCell (by simp) _⟩
end Go.Proofs.Ytdjcaogffppdhaa.Sect
namespace Go.Proofs.Ytdjcaogffppdhaa
open Go.RowKit Go.Proofs.YtdjcaogffppdhaaW.PrintWords
/-- The sector as a plain function; 'none' only where a part has more than 55 bytes. -/
def frames_Part_sector.f (a0_0 : Int) (a0_1 : Int) (a0_2 : Int) (a0_3 : ByteArray) : Option (ByteArray) := if a0_3.size ≤ 55 then some ⟨(Sect.sect a0_0 a0_1 a0_2 a0_3.data.toList).toArray⟩ else none
theorem frames_Part_sector.calls (a0_0 : Int) (a0_1 : Int) (a0_2 : Int) (a0_3 : ByteArray) (r : ByteArray) (w : World) (h : frames_Part_sector.f a0_0 a0_1 a0_2 a0_3 = some r) :
    Calls Try.prog 56 #[.agg #[.int .i64 a0_0, .int .i64 a0_1, .int .i64 a0_2, .string a0_3]] w fun e w' => e = .returned (.string r) ∧ Below w.heap.size w w' := by
  unfold frames_Part_sector.f at h
  by_cases hd : a0_3.size ≤ 55
  · rw [if_pos hd] at h
    obtain rfl := Option.some.inj h
    exact Sect.sector_any a0_0 a0_1 a0_2 a0_3 w hd
  · rw [if_neg hd] at h; cases h
end Go.Proofs.Ytdjcaogffppdhaa
