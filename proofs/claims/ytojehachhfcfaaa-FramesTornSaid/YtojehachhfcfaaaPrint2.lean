-- Written by xprint.py, a program of this session, by the kit's printer.
import Derived.Test.YtojehachhfcfaaaPrint0
import Derived.Test.YtojehachhfcfaaaPrint1
namespace Go.Proofs.Ytojehachhfcfaaa.Print
open Go.RowKit Go.Proofs.YtojehachhfcfaaaW.PrintWords Go.Proofs.YtojehachhfcfaaaW.PrintLast Go.Proofs.YtojehachhfcfaaaW.PrintMore
attribute [local go_sem] max2_int min2_int max_two min_two max_three min_three max_four min_four   -- for this text's walks alone
set_option linter.unusedVariables false
set_option linter.unusedSimpArgs false

/-! ### stevedoreref04_Tell: function 16 -/
def stevedoreref04_Tell.j0 : Nat → ByteArray → Int → Bool → Int → Int → Int → ByteArray → Option (Int × Int × Int × ByteArray × Int)
  | 0, _, _, _, _, _, _, _ => none
  | k + 1, x0, x5, x93, x124000, x124001, x124002, x124003 => if x93 = true then (some (0, 0, 0, (⟨#[]⟩ : ByteArray), 43)) else (if 7 ≤ (wrap64 (7 + x5)) then (if (wrap64 (7 + x5)) ≤ (x0.size : Int) then ((stevedoreref04_Sector.f k x124000 x124001 x124002 (x0.extract 7 ((wrap64 (7 + x5)) : Int).toNat)).bind fun t124 => (if t124.toList = x0.toList then (some (x124000, x124001, x124002, x0.extract 7 ((wrap64 (7 + x5)) : Int).toNat, 0)) else (some (0, 0, 0, (⟨#[]⟩ : ByteArray), 43)))) else (none)) else (none))
def stevedoreref04_Tell.f (k : Nat) (a0 : ByteArray) : Option (Int × Int × Int × ByteArray × Int) := if (a0.size : Int) = 64 then (if 0 < (a0.size : Int) then (if 1 < (a0.size : Int) then (if 2 < (a0.size : Int) then (if 3 < (a0.size : Int) then (if 4 < (a0.size : Int) then (if 5 < (a0.size : Int) then (if 6 < (a0.size : Int) then (if (wrap64 ((wrap64 ((wrap64 ((wrap64 ((wrap64 (bt a0 0)) * 16777216)) + (wrap64 ((wrap64 (bt a0 1)) * 65536)))) + (wrap64 ((wrap64 (bt a0 2)) * 256)))) + (wrap64 (bt a0 3)))) < 1 then (stevedoreref04_Tell.j0 k a0 (wrap64 (bt a0 6)) true (wrap64 ((wrap64 ((wrap64 ((wrap64 ((wrap64 (bt a0 0)) * 16777216)) + (wrap64 ((wrap64 (bt a0 1)) * 65536)))) + (wrap64 ((wrap64 (bt a0 2)) * 256)))) + (wrap64 (bt a0 3)))) (wrap64 (bt a0 4)) (wrap64 (bt a0 5)) (⟨#[]⟩ : ByteArray)) else (if (wrap64 ((wrap64 ((wrap64 ((wrap64 ((wrap64 (bt a0 0)) * 16777216)) + (wrap64 ((wrap64 (bt a0 1)) * 65536)))) + (wrap64 ((wrap64 (bt a0 2)) * 256)))) + (wrap64 (bt a0 3)))) > 2147483647 then (stevedoreref04_Tell.j0 k a0 (wrap64 (bt a0 6)) true (wrap64 ((wrap64 ((wrap64 ((wrap64 ((wrap64 (bt a0 0)) * 16777216)) + (wrap64 ((wrap64 (bt a0 1)) * 65536)))) + (wrap64 ((wrap64 (bt a0 2)) * 256)))) + (wrap64 (bt a0 3)))) (wrap64 (bt a0 4)) (wrap64 (bt a0 5)) (⟨#[]⟩ : ByteArray)) else (if (wrap64 (bt a0 5)) < 1 then (stevedoreref04_Tell.j0 k a0 (wrap64 (bt a0 6)) true (wrap64 ((wrap64 ((wrap64 ((wrap64 ((wrap64 (bt a0 0)) * 16777216)) + (wrap64 ((wrap64 (bt a0 1)) * 65536)))) + (wrap64 ((wrap64 (bt a0 2)) * 256)))) + (wrap64 (bt a0 3)))) (wrap64 (bt a0 4)) (wrap64 (bt a0 5)) (⟨#[]⟩ : ByteArray)) else (if (wrap64 (bt a0 5)) > 8 then (stevedoreref04_Tell.j0 k a0 (wrap64 (bt a0 6)) true (wrap64 ((wrap64 ((wrap64 ((wrap64 ((wrap64 (bt a0 0)) * 16777216)) + (wrap64 ((wrap64 (bt a0 1)) * 65536)))) + (wrap64 ((wrap64 (bt a0 2)) * 256)))) + (wrap64 (bt a0 3)))) (wrap64 (bt a0 4)) (wrap64 (bt a0 5)) (⟨#[]⟩ : ByteArray)) else (if (wrap64 (bt a0 4)) ≥ (wrap64 (bt a0 5)) then (stevedoreref04_Tell.j0 k a0 (wrap64 (bt a0 6)) true (wrap64 ((wrap64 ((wrap64 ((wrap64 ((wrap64 (bt a0 0)) * 16777216)) + (wrap64 ((wrap64 (bt a0 1)) * 65536)))) + (wrap64 ((wrap64 (bt a0 2)) * 256)))) + (wrap64 (bt a0 3)))) (wrap64 (bt a0 4)) (wrap64 (bt a0 5)) (⟨#[]⟩ : ByteArray)) else (if (wrap64 (bt a0 6)) > 55 then (stevedoreref04_Tell.j0 k a0 (wrap64 (bt a0 6)) true (wrap64 ((wrap64 ((wrap64 ((wrap64 ((wrap64 (bt a0 0)) * 16777216)) + (wrap64 ((wrap64 (bt a0 1)) * 65536)))) + (wrap64 ((wrap64 (bt a0 2)) * 256)))) + (wrap64 (bt a0 3)))) (wrap64 (bt a0 4)) (wrap64 (bt a0 5)) (⟨#[]⟩ : ByteArray)) else (if ((wrap64 (bt a0 4)) = (wrap64 ((wrap64 (bt a0 5)) - 1))) then (if (wrap64 (bt a0 4)) = (wrap64 ((wrap64 (bt a0 5)) - 1)) then (if (wrap64 (bt a0 6)) = 0 then (stevedoreref04_Tell.j0 k a0 (wrap64 (bt a0 6)) (decide ((wrap64 (bt a0 5)) > 1)) (wrap64 ((wrap64 ((wrap64 ((wrap64 ((wrap64 (bt a0 0)) * 16777216)) + (wrap64 ((wrap64 (bt a0 1)) * 65536)))) + (wrap64 ((wrap64 (bt a0 2)) * 256)))) + (wrap64 (bt a0 3)))) (wrap64 (bt a0 4)) (wrap64 (bt a0 5)) (⟨#[]⟩ : ByteArray)) else (stevedoreref04_Tell.j0 k a0 (wrap64 (bt a0 6)) false (wrap64 ((wrap64 ((wrap64 ((wrap64 ((wrap64 (bt a0 0)) * 16777216)) + (wrap64 ((wrap64 (bt a0 1)) * 65536)))) + (wrap64 ((wrap64 (bt a0 2)) * 256)))) + (wrap64 (bt a0 3)))) (wrap64 (bt a0 4)) (wrap64 (bt a0 5)) (⟨#[]⟩ : ByteArray))) else (stevedoreref04_Tell.j0 k a0 (wrap64 (bt a0 6)) false (wrap64 ((wrap64 ((wrap64 ((wrap64 ((wrap64 (bt a0 0)) * 16777216)) + (wrap64 ((wrap64 (bt a0 1)) * 65536)))) + (wrap64 ((wrap64 (bt a0 2)) * 256)))) + (wrap64 (bt a0 3)))) (wrap64 (bt a0 4)) (wrap64 (bt a0 5)) (⟨#[]⟩ : ByteArray))) else (if (wrap64 (bt a0 6)) = 55 then (if (wrap64 (bt a0 4)) = (wrap64 ((wrap64 (bt a0 5)) - 1)) then (if (wrap64 (bt a0 6)) = 0 then (stevedoreref04_Tell.j0 k a0 (wrap64 (bt a0 6)) (decide ((wrap64 (bt a0 5)) > 1)) (wrap64 ((wrap64 ((wrap64 ((wrap64 ((wrap64 (bt a0 0)) * 16777216)) + (wrap64 ((wrap64 (bt a0 1)) * 65536)))) + (wrap64 ((wrap64 (bt a0 2)) * 256)))) + (wrap64 (bt a0 3)))) (wrap64 (bt a0 4)) (wrap64 (bt a0 5)) (⟨#[]⟩ : ByteArray)) else (stevedoreref04_Tell.j0 k a0 (wrap64 (bt a0 6)) false (wrap64 ((wrap64 ((wrap64 ((wrap64 ((wrap64 (bt a0 0)) * 16777216)) + (wrap64 ((wrap64 (bt a0 1)) * 65536)))) + (wrap64 ((wrap64 (bt a0 2)) * 256)))) + (wrap64 (bt a0 3)))) (wrap64 (bt a0 4)) (wrap64 (bt a0 5)) (⟨#[]⟩ : ByteArray))) else (stevedoreref04_Tell.j0 k a0 (wrap64 (bt a0 6)) false (wrap64 ((wrap64 ((wrap64 ((wrap64 ((wrap64 (bt a0 0)) * 16777216)) + (wrap64 ((wrap64 (bt a0 1)) * 65536)))) + (wrap64 ((wrap64 (bt a0 2)) * 256)))) + (wrap64 (bt a0 3)))) (wrap64 (bt a0 4)) (wrap64 (bt a0 5)) (⟨#[]⟩ : ByteArray))) else (stevedoreref04_Tell.j0 k a0 (wrap64 (bt a0 6)) true (wrap64 ((wrap64 ((wrap64 ((wrap64 ((wrap64 (bt a0 0)) * 16777216)) + (wrap64 ((wrap64 (bt a0 1)) * 65536)))) + (wrap64 ((wrap64 (bt a0 2)) * 256)))) + (wrap64 (bt a0 3)))) (wrap64 (bt a0 4)) (wrap64 (bt a0 5)) (⟨#[]⟩ : ByteArray)))))))))) else (none)) else (none)) else (none)) else (none)) else (none)) else (none)) else (none)) else (some (0, 0, 0, (⟨#[]⟩ : ByteArray), 43))
theorem stevedoreref04_Tell.mono_l : ∀ k, (∀ y0 y1 y2 y3 y4 y5 y6, LeO (stevedoreref04_Tell.j0 k y0 y1 y2 y3 y4 y5 y6) (stevedoreref04_Tell.j0 (k + 1) y0 y1 y2 y3 y4 y5 y6))
  | 0 => fun _ _ _ _ _ _ _ r h => by simp [stevedoreref04_Tell.j0] at h
  | k + 1 => by
    have ih0 := stevedoreref04_Tell.mono_l k
    · intro y0 y1 y2 y3 y4 y5 y6
      unfold stevedoreref04_Tell.j0
      repeat' first
      | (with_reducible exact ih0 _ _ _ _ _ _ _)
      | (with_reducible exact stevedoreref04_Sector.mono _ _ _ _ _)
      | (with_reducible exact LeO.refl _)
      | (with_reducible exact LeO.none _)
      | (with_reducible refine LeO.ite ?_ ?_)
      | (with_reducible refine LeO.bind ?_ (fun _ => ?_))
      | exact ih0 _ _ _ _ _ _ _
      | exact stevedoreref04_Sector.mono _ _ _ _ _
      | exact LeO.none _
      | refine LeO.ite ?_ ?_
      | refine LeO.bind ?_ (fun _ => ?_)
theorem stevedoreref04_Tell.mono : ∀ a0 k, LeO (stevedoreref04_Tell.f k a0) (stevedoreref04_Tell.f (k + 1) a0) := by
  intro a0 k
  have ih0 := stevedoreref04_Tell.mono_l k
  unfold stevedoreref04_Tell.f
  repeat' first
      | (with_reducible exact ih0 _ _ _ _ _ _ _)
      | (with_reducible exact stevedoreref04_Sector.mono _ _ _ _ _)
      | (with_reducible exact LeO.refl _)
      | (with_reducible exact LeO.none _)
      | (with_reducible refine LeO.ite ?_ ?_)
      | (with_reducible refine LeO.bind ?_ (fun _ => ?_))
      | exact ih0 _ _ _ _ _ _ _
      | exact stevedoreref04_Sector.mono _ _ _ _ _
      | exact LeO.none _
      | refine LeO.ite ?_ ?_
      | refine LeO.bind ?_ (fun _ => ?_)
def stevedoreref04_Tell.T3 : Bool × List (List Nat × List Nat) := (true, [([], []), ([0], [0]), ([1], [1]), ([2], [2]), ([], []), ([4], [4]), ([5], [5]), ([6], [6]), ([3, 7], [3, 7]), ([], []), ([9], [9]), ([10], [10]), ([11], [11]), ([8, 12], [8, 12]), ([], []), ([14], [14]), ([15], [15]), ([13, 16], [13, 16]), ([], []), ([18], [18]), ([19], [19]), ([], []), ([21], [21]), ([22], [22]), ([17, 20, 23], [17, 20, 23]), ([], []), ([25, 24, 0, 1, 2, 3, 4, 5, 6, 7, 8, 9, 10, 11, 12, 13, 14, 15, 16, 17, 18, 19, 20, 21, 22, 23, 24, 25], [24, 25])])
def stevedoreref04_Tell.B3 : List Nat := [0, 1, 3, 7, 0, 16, 48, 112, 255, 0, 512, 1536, 3584, 8191, 0, 16384, 49152, 131071, 0, 262144, 786432, 0, 2097152, 6291456, 16777215, 0, 67108863]
theorem stevedoreref04_Tell.tab3 : rtab .any (opsOf Try.f16 3) = stevedoreref04_Tell.T3 := by kernel_rfl
theorem stevedoreref04_Tell.bits3 : waitsOk stevedoreref04_Tell.T3.2 stevedoreref04_Tell.B3 = true := by kernel_rfl
set_option maxHeartbeats 8000000 in
set_option maxRecDepth 100000 in
theorem stevedoreref04_Tell.calls (k : Nat) (a0 : ByteArray) (r1 : Int) (r2 : Int) (r3 : Int) (r4 : ByteArray) (r5 : Int) (w : World) (h : stevedoreref04_Tell.f k a0 = some (r1, r2, r3, r4, r5)) :
    Calls Try.prog 16 #[.string a0] w fun e w' => e = .returned (.tuple #[.agg #[.int .i64 r1, .int .i64 r2, .int .i64 r3, .string r4], .int .i64 r5]) ∧ Below w.heap.size w w' := by
  have hu30 := Try.underlying30
  have HB := Aside0.mk (Below.refl w.heap.size w)
  have H : (if (a0.size : Int) = 64 then (if 0 < (a0.size : Int) then (if 1 < (a0.size : Int) then (if 2 < (a0.size : Int) then (if 3 < (a0.size : Int) then (if 4 < (a0.size : Int) then (if 5 < (a0.size : Int) then (if 6 < (a0.size : Int) then (if (wrap64 ((wrap64 ((wrap64 ((wrap64 ((wrap64 (bt a0 0)) * 16777216)) + (wrap64 ((wrap64 (bt a0 1)) * 65536)))) + (wrap64 ((wrap64 (bt a0 2)) * 256)))) + (wrap64 (bt a0 3)))) < 1 then (stevedoreref04_Tell.j0 k a0 (wrap64 (bt a0 6)) true (wrap64 ((wrap64 ((wrap64 ((wrap64 ((wrap64 (bt a0 0)) * 16777216)) + (wrap64 ((wrap64 (bt a0 1)) * 65536)))) + (wrap64 ((wrap64 (bt a0 2)) * 256)))) + (wrap64 (bt a0 3)))) (wrap64 (bt a0 4)) (wrap64 (bt a0 5)) (⟨#[]⟩ : ByteArray)) else (if (wrap64 ((wrap64 ((wrap64 ((wrap64 ((wrap64 (bt a0 0)) * 16777216)) + (wrap64 ((wrap64 (bt a0 1)) * 65536)))) + (wrap64 ((wrap64 (bt a0 2)) * 256)))) + (wrap64 (bt a0 3)))) > 2147483647 then (stevedoreref04_Tell.j0 k a0 (wrap64 (bt a0 6)) true (wrap64 ((wrap64 ((wrap64 ((wrap64 ((wrap64 (bt a0 0)) * 16777216)) + (wrap64 ((wrap64 (bt a0 1)) * 65536)))) + (wrap64 ((wrap64 (bt a0 2)) * 256)))) + (wrap64 (bt a0 3)))) (wrap64 (bt a0 4)) (wrap64 (bt a0 5)) (⟨#[]⟩ : ByteArray)) else (if (wrap64 (bt a0 5)) < 1 then (stevedoreref04_Tell.j0 k a0 (wrap64 (bt a0 6)) true (wrap64 ((wrap64 ((wrap64 ((wrap64 ((wrap64 (bt a0 0)) * 16777216)) + (wrap64 ((wrap64 (bt a0 1)) * 65536)))) + (wrap64 ((wrap64 (bt a0 2)) * 256)))) + (wrap64 (bt a0 3)))) (wrap64 (bt a0 4)) (wrap64 (bt a0 5)) (⟨#[]⟩ : ByteArray)) else (if (wrap64 (bt a0 5)) > 8 then (stevedoreref04_Tell.j0 k a0 (wrap64 (bt a0 6)) true (wrap64 ((wrap64 ((wrap64 ((wrap64 ((wrap64 (bt a0 0)) * 16777216)) + (wrap64 ((wrap64 (bt a0 1)) * 65536)))) + (wrap64 ((wrap64 (bt a0 2)) * 256)))) + (wrap64 (bt a0 3)))) (wrap64 (bt a0 4)) (wrap64 (bt a0 5)) (⟨#[]⟩ : ByteArray)) else (if (wrap64 (bt a0 4)) ≥ (wrap64 (bt a0 5)) then (stevedoreref04_Tell.j0 k a0 (wrap64 (bt a0 6)) true (wrap64 ((wrap64 ((wrap64 ((wrap64 ((wrap64 (bt a0 0)) * 16777216)) + (wrap64 ((wrap64 (bt a0 1)) * 65536)))) + (wrap64 ((wrap64 (bt a0 2)) * 256)))) + (wrap64 (bt a0 3)))) (wrap64 (bt a0 4)) (wrap64 (bt a0 5)) (⟨#[]⟩ : ByteArray)) else (if (wrap64 (bt a0 6)) > 55 then (stevedoreref04_Tell.j0 k a0 (wrap64 (bt a0 6)) true (wrap64 ((wrap64 ((wrap64 ((wrap64 ((wrap64 (bt a0 0)) * 16777216)) + (wrap64 ((wrap64 (bt a0 1)) * 65536)))) + (wrap64 ((wrap64 (bt a0 2)) * 256)))) + (wrap64 (bt a0 3)))) (wrap64 (bt a0 4)) (wrap64 (bt a0 5)) (⟨#[]⟩ : ByteArray)) else (if ((wrap64 (bt a0 4)) = (wrap64 ((wrap64 (bt a0 5)) - 1))) then (if (wrap64 (bt a0 4)) = (wrap64 ((wrap64 (bt a0 5)) - 1)) then (if (wrap64 (bt a0 6)) = 0 then (stevedoreref04_Tell.j0 k a0 (wrap64 (bt a0 6)) (decide ((wrap64 (bt a0 5)) > 1)) (wrap64 ((wrap64 ((wrap64 ((wrap64 ((wrap64 (bt a0 0)) * 16777216)) + (wrap64 ((wrap64 (bt a0 1)) * 65536)))) + (wrap64 ((wrap64 (bt a0 2)) * 256)))) + (wrap64 (bt a0 3)))) (wrap64 (bt a0 4)) (wrap64 (bt a0 5)) (⟨#[]⟩ : ByteArray)) else (stevedoreref04_Tell.j0 k a0 (wrap64 (bt a0 6)) false (wrap64 ((wrap64 ((wrap64 ((wrap64 ((wrap64 (bt a0 0)) * 16777216)) + (wrap64 ((wrap64 (bt a0 1)) * 65536)))) + (wrap64 ((wrap64 (bt a0 2)) * 256)))) + (wrap64 (bt a0 3)))) (wrap64 (bt a0 4)) (wrap64 (bt a0 5)) (⟨#[]⟩ : ByteArray))) else (stevedoreref04_Tell.j0 k a0 (wrap64 (bt a0 6)) false (wrap64 ((wrap64 ((wrap64 ((wrap64 ((wrap64 (bt a0 0)) * 16777216)) + (wrap64 ((wrap64 (bt a0 1)) * 65536)))) + (wrap64 ((wrap64 (bt a0 2)) * 256)))) + (wrap64 (bt a0 3)))) (wrap64 (bt a0 4)) (wrap64 (bt a0 5)) (⟨#[]⟩ : ByteArray))) else (if (wrap64 (bt a0 6)) = 55 then (if (wrap64 (bt a0 4)) = (wrap64 ((wrap64 (bt a0 5)) - 1)) then (if (wrap64 (bt a0 6)) = 0 then (stevedoreref04_Tell.j0 k a0 (wrap64 (bt a0 6)) (decide ((wrap64 (bt a0 5)) > 1)) (wrap64 ((wrap64 ((wrap64 ((wrap64 ((wrap64 (bt a0 0)) * 16777216)) + (wrap64 ((wrap64 (bt a0 1)) * 65536)))) + (wrap64 ((wrap64 (bt a0 2)) * 256)))) + (wrap64 (bt a0 3)))) (wrap64 (bt a0 4)) (wrap64 (bt a0 5)) (⟨#[]⟩ : ByteArray)) else (stevedoreref04_Tell.j0 k a0 (wrap64 (bt a0 6)) false (wrap64 ((wrap64 ((wrap64 ((wrap64 ((wrap64 (bt a0 0)) * 16777216)) + (wrap64 ((wrap64 (bt a0 1)) * 65536)))) + (wrap64 ((wrap64 (bt a0 2)) * 256)))) + (wrap64 (bt a0 3)))) (wrap64 (bt a0 4)) (wrap64 (bt a0 5)) (⟨#[]⟩ : ByteArray))) else (stevedoreref04_Tell.j0 k a0 (wrap64 (bt a0 6)) false (wrap64 ((wrap64 ((wrap64 ((wrap64 ((wrap64 (bt a0 0)) * 16777216)) + (wrap64 ((wrap64 (bt a0 1)) * 65536)))) + (wrap64 ((wrap64 (bt a0 2)) * 256)))) + (wrap64 (bt a0 3)))) (wrap64 (bt a0 4)) (wrap64 (bt a0 5)) (⟨#[]⟩ : ByteArray))) else (stevedoreref04_Tell.j0 k a0 (wrap64 (bt a0 6)) true (wrap64 ((wrap64 ((wrap64 ((wrap64 ((wrap64 (bt a0 0)) * 16777216)) + (wrap64 ((wrap64 (bt a0 1)) * 65536)))) + (wrap64 ((wrap64 (bt a0 2)) * 256)))) + (wrap64 (bt a0 3)))) (wrap64 (bt a0 4)) (wrap64 (bt a0 5)) (⟨#[]⟩ : ByteArray)))))))))) else (none)) else (none)) else (none)) else (none)) else (none)) else (none)) else (none)) else (some (0, 0, 0, (⟨#[]⟩ : ByteArray), 43))) = some (r1, r2, r3, r4, r5) := h
  clear h
  by_cases c2 : (a0.size : Int) = 64
  · rw [if_pos c2] at H
    have c2b0 : ((a0.size : Int) == 64) = true := beq_iff_eq.mpr c2
    have c2b1 : ((a0.size : Int) != 64) = false := bne_eq_false_iff_eq.mpr c2
    clear c2
    by_cases c3 : 0 < (a0.size : Int)
    · rw [if_pos c3] at H
      have c3b0 : decide (0 < (a0.size : Int)) = true := decide_eq_true c3
      have c3b1 : decide (0 < a0.size) = true := decide_eq_true (by omega)
      clear c3
      by_cases c5 : 1 < (a0.size : Int)
      · rw [if_pos c5] at H
        have c5b0 : decide (1 < (a0.size : Int)) = true := decide_eq_true c5
        have c5b1 : decide (1 < a0.size) = true := decide_eq_true (by omega)
        clear c5
        by_cases c7 : 2 < (a0.size : Int)
        · rw [if_pos c7] at H
          have c7b0 : decide (2 < (a0.size : Int)) = true := decide_eq_true c7
          have c7b1 : decide (2 < a0.size) = true := decide_eq_true (by omega)
          clear c7
          by_cases c9 : 3 < (a0.size : Int)
          · rw [if_pos c9] at H
            have c9b0 : decide (3 < (a0.size : Int)) = true := decide_eq_true c9
            have c9b1 : decide (3 < a0.size) = true := decide_eq_true (by omega)
            clear c9
            by_cases c11 : 4 < (a0.size : Int)
            · rw [if_pos c11] at H
              have c11b0 : decide (4 < (a0.size : Int)) = true := decide_eq_true c11
              have c11b1 : decide (4 < a0.size) = true := decide_eq_true (by omega)
              clear c11
              by_cases c13 : 5 < (a0.size : Int)
              · rw [if_pos c13] at H
                have c13b0 : decide (5 < (a0.size : Int)) = true := decide_eq_true c13
                have c13b1 : decide (5 < a0.size) = true := decide_eq_true (by omega)
                clear c13
                by_cases c15 : 6 < (a0.size : Int)
                · rw [if_pos c15] at H
                  have c15b0 : decide (6 < (a0.size : Int)) = true := decide_eq_true c15
                  have c15b1 : decide (6 < a0.size) = true := decide_eq_true (by omega)
                  clear c15
                  have HC17 := Aside0.mk H
                  clear H
                  go_enter Try.func16, Try.ntmps16
                  try go_wp2_with (first | ((with_reducible refine gate_dst (N := 2) rfl ?_); refine box_event ?hg (N := 2) ?hd (cs := #[.int .i64 0, .int .i64 0, .int .i64 0, .string (⟨#[]⟩ : ByteArray)]) (t := 30) ?hr ?_; (case hd => rfl); (case hg => rfl); (case hr => first | (go_simp; done) | (go_simp; rfl)); intro gb122 hg w18 hbox hb; have n0_ := Aside0.mk (below_step (by repeat (first | (with_reducible first | exact HB.out | apply below_alloc | apply pw_below_drewN | apply below_drew1) | exact HB.out)) hb); have n1_ := Aside0.mk (hbox); have n2_ := Aside0.mk ((by rw [hg]; exact (below_size (by repeat (first | (with_reducible first | exact HB.out | apply below_alloc | apply pw_below_drewN | apply below_drew1) | exact HB.out))) : w.heap.size ≤ gb122)); have n3_ := Aside0.mk ((by rw [hg]; exact (below_size (by repeat (first | (with_reducible first | exact HB.out | apply below_alloc | apply pw_below_drewN | apply below_drew1) | exact HB.out))) : w.heap.size ≤ gb122)); clear HB; have HB := n0_; have BK122 := n1_; have GW122 := n2_; have GE122 := n3_; clear n0_ n1_ n2_ n3_; clear hb hbox hg))
                  have n0_ := Aside0.mk (blk_drew BK122.out)
                  have n1_ := Aside0.mk (below_drew1 HB.out)
                  clear BK122
                  clear HB
                  have BK122 := n0_
                  have HB := n1_
                  clear n0_ n1_
                  have p4 : 0 ≤ (0 : Int) := (by omega)
                  have q4 : 0 < a0.size := (by have : (0 : Int) < (a0.size : Int) := of_decide_eq_true (by first | (with_reducible assumption) | assumption); omega)
                  have hx4 : ∀ h : 0 < a0.size, ((a0[0]'h).toNat : Int) = bt a0 0 := bt_at a0 0
                  clear p4
                  have qi4 : (0 < (a0.size : Int)) = True := eq_true (of_decide_eq_true (by first | (with_reducible assumption) | assumption))
                  replace q4 := eq_true q4
                  have p6 : 0 ≤ (1 : Int) := (by omega)
                  have q6 : 1 < a0.size := (by have : (1 : Int) < (a0.size : Int) := of_decide_eq_true (by first | (with_reducible assumption) | assumption); omega)
                  have hx6 : ∀ h : 1 < a0.size, ((a0[1]'h).toNat : Int) = bt a0 1 := bt_at a0 1
                  clear p6
                  have qi6 : (1 < (a0.size : Int)) = True := eq_true (of_decide_eq_true (by first | (with_reducible assumption) | assumption))
                  replace q6 := eq_true q6
                  have p8 : 0 ≤ (2 : Int) := (by omega)
                  have q8 : 2 < a0.size := (by have : (2 : Int) < (a0.size : Int) := of_decide_eq_true (by first | (with_reducible assumption) | assumption); omega)
                  have hx8 : ∀ h : 2 < a0.size, ((a0[2]'h).toNat : Int) = bt a0 2 := bt_at a0 2
                  clear p8
                  have qi8 : (2 < (a0.size : Int)) = True := eq_true (of_decide_eq_true (by first | (with_reducible assumption) | assumption))
                  replace q8 := eq_true q8
                  have p10 : 0 ≤ (3 : Int) := (by omega)
                  have q10 : 3 < a0.size := (by have : (3 : Int) < (a0.size : Int) := of_decide_eq_true (by first | (with_reducible assumption) | assumption); omega)
                  have hx10 : ∀ h : 3 < a0.size, ((a0[3]'h).toNat : Int) = bt a0 3 := bt_at a0 3
                  clear p10
                  have qi10 : (3 < (a0.size : Int)) = True := eq_true (of_decide_eq_true (by first | (with_reducible assumption) | assumption))
                  replace q10 := eq_true q10
                  have p12 : 0 ≤ (4 : Int) := (by omega)
                  have q12 : 4 < a0.size := (by have : (4 : Int) < (a0.size : Int) := of_decide_eq_true (by first | (with_reducible assumption) | assumption); omega)
                  have hx12 : ∀ h : 4 < a0.size, ((a0[4]'h).toNat : Int) = bt a0 4 := bt_at a0 4
                  clear p12
                  have qi12 : (4 < (a0.size : Int)) = True := eq_true (of_decide_eq_true (by first | (with_reducible assumption) | assumption))
                  replace q12 := eq_true q12
                  have p14 : 0 ≤ (5 : Int) := (by omega)
                  have q14 : 5 < a0.size := (by have : (5 : Int) < (a0.size : Int) := of_decide_eq_true (by first | (with_reducible assumption) | assumption); omega)
                  have hx14 : ∀ h : 5 < a0.size, ((a0[5]'h).toNat : Int) = bt a0 5 := bt_at a0 5
                  clear p14
                  have qi14 : (5 < (a0.size : Int)) = True := eq_true (of_decide_eq_true (by first | (with_reducible assumption) | assumption))
                  replace q14 := eq_true q14
                  refine start_ (n := 27) (S := fun w' => True) (ds := []) #[false, false, false, false, false, false, false, false, false, false, false, false, false, false, false, false, false, false, false, false, false, false, false, false, false, false, false] (by kernel_rfl) rfl rfl trivial (fun hHeld => ?_); refine with_tabW stevedoreref04_Tell.tab3 stevedoreref04_Tell.bits3 (fun HT_ HW_ => ?_)
                  generalize w18.drew = w19 at BK122 HB hHeld ⊢
                  refine pure_ (i := 0) (N := some 11) (v := ?_) (a' := ?_) #[true, false, false, false, false, false, false, false, false, false, false, false, false, false, false, false, false, false, false, false, false, false, false, false, false, false, false] rfl rfl (any_of HT_.out (by kernel_rfl)) (fun _ _ _ h => h) (Or.inl ⟨by rfl, ?_⟩) ?_ ?_
                  rotate_left
                  · intro w'
                    go_simp
                    with_reducible rfl
                  rotate_left
                  · simp only [Act.put, List.setIfInBounds_toArray, List.set_cons_zero, List.set_cons_succ, i64_w, i32_w]
                    rfl
                  refine pure_ (i := 4) (N := some 15) (v := ?_) (a' := ?_) #[true, false, false, false, true, false, false, false, false, false, false, false, false, false, false, false, false, false, false, false, false, false, false, false, false, false, false] rfl rfl (any_of HT_.out (by kernel_rfl)) (fun _ _ _ h => h) (Or.inl ⟨by rfl, ?_⟩) ?_ ?_
                  rotate_left
                  · intro w'
                    go_simp
                    with_reducible rfl
                  rotate_left
                  · simp only [Act.put, List.setIfInBounds_toArray, List.set_cons_zero, List.set_cons_succ, i64_w, i32_w]
                    rfl
                  refine pure_ (i := 9) (N := some 20) (v := ?_) (a' := ?_) #[true, false, false, false, true, false, false, false, false, true, false, false, false, false, false, false, false, false, false, false, false, false, false, false, false, false, false] rfl rfl (any_of HT_.out (by kernel_rfl)) (fun _ _ _ h => h) (Or.inl ⟨by rfl, ?_⟩) ?_ ?_
                  rotate_left
                  · intro w'
                    go_simp
                    with_reducible rfl
                  rotate_left
                  · simp only [Act.put, List.setIfInBounds_toArray, List.set_cons_zero, List.set_cons_succ, i64_w, i32_w]
                    rfl
                  refine pure_ (i := 14) (N := some 25) (v := ?_) (a' := ?_) #[true, false, false, false, true, false, false, false, false, true, false, false, false, false, true, false, false, false, false, false, false, false, false, false, false, false, false] rfl rfl (any_of HT_.out (by kernel_rfl)) (fun _ _ _ h => h) (Or.inl ⟨by rfl, ?_⟩) ?_ ?_
                  rotate_left
                  · intro w'
                    go_simp
                    with_reducible rfl
                  rotate_left
                  · simp only [Act.put, List.setIfInBounds_toArray, List.set_cons_zero, List.set_cons_succ, i64_w, i32_w]
                    rfl
                  refine pure_ (i := 18) (N := some 29) (v := ?_) (a' := ?_) #[true, false, false, false, true, false, false, false, false, true, false, false, false, false, true, false, false, false, true, false, false, false, false, false, false, false, false] rfl rfl (any_of HT_.out (by kernel_rfl)) (fun _ _ _ h => h) (Or.inl ⟨by rfl, ?_⟩) ?_ ?_
                  rotate_left
                  · intro w'
                    go_simp
                    with_reducible rfl
                  rotate_left
                  · simp only [Act.put, List.setIfInBounds_toArray, List.set_cons_zero, List.set_cons_succ, i64_w, i32_w]
                    rfl
                  refine pure_ (i := 21) (N := some 32) (v := ?_) (a' := ?_) #[true, false, false, false, true, false, false, false, false, true, false, false, false, false, true, false, false, false, true, false, false, true, false, false, false, false, false] rfl rfl (any_of HT_.out (by kernel_rfl)) (fun _ _ _ h => h) (Or.inl ⟨by rfl, ?_⟩) ?_ ?_
                  rotate_left
                  · intro w'
                    go_simp
                    with_reducible rfl
                  rotate_left
                  · simp only [Act.put, List.setIfInBounds_toArray, List.set_cons_zero, List.set_cons_succ, i64_w, i32_w]
                    rfl
                  refine take_ (i := 1) (N := some 12) (v := ?_) (a' := ?_) #[true, true, false, false, true, false, false, false, false, true, false, false, false, false, true, false, false, false, true, false, false, true, false, false, false, false, false] rfl rfl (take_ofW HT_.out HW_.out (by kernel_rfl)) (fun _ _ _ h => h) (Or.inl ⟨by rfl, ?_⟩) hHeld ?_ ?_
                  rotate_left
                  · intro w' _
                    go_simp
                    with_reducible rfl
                  rotate_left
                  · simp only [Act.put, List.setIfInBounds_toArray, List.set_cons_zero, List.set_cons_succ, i64_w, i32_w]
                    rfl
                  refine pure_ (i := 2) (N := some 13) (v := ?_) (a' := ?_) #[true, true, true, false, true, false, false, false, false, true, false, false, false, false, true, false, false, false, true, false, false, true, false, false, false, false, false] rfl rfl (any_of HT_.out (by kernel_rfl)) (fun _ _ _ h => h) (Or.inl ⟨by rfl, ?_⟩) ?_ ?_
                  rotate_left
                  · intro w'
                    go_simp
                    with_reducible rfl
                  rotate_left
                  · simp only [Act.put, List.setIfInBounds_toArray, List.set_cons_zero, List.set_cons_succ, i64_w, i32_w]
                    rfl
                  refine pure_ (i := 3) (N := some 14) (v := ?_) (a' := ?_) #[true, true, true, true, true, false, false, false, false, true, false, false, false, false, true, false, false, false, true, false, false, true, false, false, false, false, false] rfl rfl (any_of HT_.out (by kernel_rfl)) (fun _ _ _ h => h) (Or.inl ⟨by rfl, ?_⟩) ?_ ?_
                  rotate_left
                  · intro w'
                    go_simp
                    with_reducible rfl
                  rotate_left
                  · simp only [Act.put, List.setIfInBounds_toArray, List.set_cons_zero, List.set_cons_succ, i64_w, i32_w]
                    rfl
                  refine take_ (i := 5) (N := some 16) (v := ?_) (a' := ?_) #[true, true, true, true, true, true, false, false, false, true, false, false, false, false, true, false, false, false, true, false, false, true, false, false, false, false, false] rfl rfl (take_ofW HT_.out HW_.out (by kernel_rfl)) (fun _ _ _ h => h) (Or.inl ⟨by rfl, ?_⟩) hHeld ?_ ?_
                  rotate_left
                  · intro w' _
                    go_simp
                    with_reducible rfl
                  rotate_left
                  · simp only [Act.put, List.setIfInBounds_toArray, List.set_cons_zero, List.set_cons_succ, i64_w, i32_w]
                    rfl
                  refine pure_ (i := 6) (N := some 17) (v := ?_) (a' := ?_) #[true, true, true, true, true, true, true, false, false, true, false, false, false, false, true, false, false, false, true, false, false, true, false, false, false, false, false] rfl rfl (any_of HT_.out (by kernel_rfl)) (fun _ _ _ h => h) (Or.inl ⟨by rfl, ?_⟩) ?_ ?_
                  rotate_left
                  · intro w'
                    go_simp
                    with_reducible rfl
                  rotate_left
                  · simp only [Act.put, List.setIfInBounds_toArray, List.set_cons_zero, List.set_cons_succ, i64_w, i32_w]
                    rfl
                  refine pure_ (i := 7) (N := some 18) (v := ?_) (a' := ?_) #[true, true, true, true, true, true, true, true, false, true, false, false, false, false, true, false, false, false, true, false, false, true, false, false, false, false, false] rfl rfl (any_of HT_.out (by kernel_rfl)) (fun _ _ _ h => h) (Or.inl ⟨by rfl, ?_⟩) ?_ ?_
                  rotate_left
                  · intro w'
                    go_simp
                    with_reducible rfl
                  rotate_left
                  · simp only [Act.put, List.setIfInBounds_toArray, List.set_cons_zero, List.set_cons_succ, i64_w, i32_w]
                    rfl
                  refine pure_ (i := 8) (N := some 19) (v := ?_) (a' := ?_) #[true, true, true, true, true, true, true, true, true, true, false, false, false, false, true, false, false, false, true, false, false, true, false, false, false, false, false] rfl rfl (any_of HT_.out (by kernel_rfl)) (fun _ _ _ h => h) (Or.inl ⟨by rfl, ?_⟩) ?_ ?_
                  rotate_left
                  · intro w'
                    go_simp
                    with_reducible rfl
                  rotate_left
                  · simp only [Act.put, List.setIfInBounds_toArray, List.set_cons_zero, List.set_cons_succ, i64_w, i32_w]
                    rfl
                  refine take_ (i := 10) (N := some 21) (v := ?_) (a' := ?_) #[true, true, true, true, true, true, true, true, true, true, true, false, false, false, true, false, false, false, true, false, false, true, false, false, false, false, false] rfl rfl (take_ofW HT_.out HW_.out (by kernel_rfl)) (fun _ _ _ h => h) (Or.inl ⟨by rfl, ?_⟩) hHeld ?_ ?_
                  rotate_left
                  · intro w' _
                    go_simp
                    with_reducible rfl
                  rotate_left
                  · simp only [Act.put, List.setIfInBounds_toArray, List.set_cons_zero, List.set_cons_succ, i64_w, i32_w]
                    rfl
                  refine pure_ (i := 11) (N := some 22) (v := ?_) (a' := ?_) #[true, true, true, true, true, true, true, true, true, true, true, true, false, false, true, false, false, false, true, false, false, true, false, false, false, false, false] rfl rfl (any_of HT_.out (by kernel_rfl)) (fun _ _ _ h => h) (Or.inl ⟨by rfl, ?_⟩) ?_ ?_
                  rotate_left
                  · intro w'
                    go_simp
                    with_reducible rfl
                  rotate_left
                  · simp only [Act.put, List.setIfInBounds_toArray, List.set_cons_zero, List.set_cons_succ, i64_w, i32_w]
                    rfl
                  refine pure_ (i := 12) (N := some 23) (v := ?_) (a' := ?_) #[true, true, true, true, true, true, true, true, true, true, true, true, true, false, true, false, false, false, true, false, false, true, false, false, false, false, false] rfl rfl (any_of HT_.out (by kernel_rfl)) (fun _ _ _ h => h) (Or.inl ⟨by rfl, ?_⟩) ?_ ?_
                  rotate_left
                  · intro w'
                    go_simp
                    with_reducible rfl
                  rotate_left
                  · simp only [Act.put, List.setIfInBounds_toArray, List.set_cons_zero, List.set_cons_succ, i64_w, i32_w]
                    rfl
                  refine pure_ (i := 13) (N := some 24) (v := ?_) (a' := ?_) #[true, true, true, true, true, true, true, true, true, true, true, true, true, true, true, false, false, false, true, false, false, true, false, false, false, false, false] rfl rfl (any_of HT_.out (by kernel_rfl)) (fun _ _ _ h => h) (Or.inl ⟨by rfl, ?_⟩) ?_ ?_
                  rotate_left
                  · intro w'
                    go_simp
                    with_reducible rfl
                  rotate_left
                  · simp only [Act.put, List.setIfInBounds_toArray, List.set_cons_zero, List.set_cons_succ, i64_w, i32_w]
                    rfl
                  refine take_ (i := 15) (N := some 26) (v := ?_) (a' := ?_) #[true, true, true, true, true, true, true, true, true, true, true, true, true, true, true, true, false, false, true, false, false, true, false, false, false, false, false] rfl rfl (take_ofW HT_.out HW_.out (by kernel_rfl)) (fun _ _ _ h => h) (Or.inl ⟨by rfl, ?_⟩) hHeld ?_ ?_
                  rotate_left
                  · intro w' _
                    go_simp
                    with_reducible rfl
                  rotate_left
                  · simp only [Act.put, List.setIfInBounds_toArray, List.set_cons_zero, List.set_cons_succ, i64_w, i32_w]
                    rfl
                  refine pure_ (i := 16) (N := some 27) (v := ?_) (a' := ?_) #[true, true, true, true, true, true, true, true, true, true, true, true, true, true, true, true, true, false, true, false, false, true, false, false, false, false, false] rfl rfl (any_of HT_.out (by kernel_rfl)) (fun _ _ _ h => h) (Or.inl ⟨by rfl, ?_⟩) ?_ ?_
                  rotate_left
                  · intro w'
                    go_simp
                    with_reducible rfl
                  rotate_left
                  · simp only [Act.put, List.setIfInBounds_toArray, List.set_cons_zero, List.set_cons_succ, i64_w, i32_w]
                    rfl
                  refine pure_ (i := 17) (N := some 28) (v := ?_) (a' := ?_) #[true, true, true, true, true, true, true, true, true, true, true, true, true, true, true, true, true, true, true, false, false, true, false, false, false, false, false] rfl rfl (any_of HT_.out (by kernel_rfl)) (fun _ _ _ h => h) (Or.inl ⟨by rfl, ?_⟩) ?_ ?_
                  rotate_left
                  · intro w'
                    go_simp
                    with_reducible rfl
                  rotate_left
                  · simp only [Act.put, List.setIfInBounds_toArray, List.set_cons_zero, List.set_cons_succ, i64_w, i32_w]
                    rfl
                  refine take_ (i := 19) (N := some 30) (v := ?_) (a' := ?_) #[true, true, true, true, true, true, true, true, true, true, true, true, true, true, true, true, true, true, true, true, false, true, false, false, false, false, false] rfl rfl (take_ofW HT_.out HW_.out (by kernel_rfl)) (fun _ _ _ h => h) (Or.inl ⟨by rfl, ?_⟩) hHeld ?_ ?_
                  rotate_left
                  · intro w' _
                    go_simp
                    with_reducible rfl
                  rotate_left
                  · simp only [Act.put, List.setIfInBounds_toArray, List.set_cons_zero, List.set_cons_succ, i64_w, i32_w]
                    rfl
                  refine pure_ (i := 20) (N := some 31) (v := ?_) (a' := ?_) #[true, true, true, true, true, true, true, true, true, true, true, true, true, true, true, true, true, true, true, true, true, true, false, false, false, false, false] rfl rfl (any_of HT_.out (by kernel_rfl)) (fun _ _ _ h => h) (Or.inl ⟨by rfl, ?_⟩) ?_ ?_
                  rotate_left
                  · intro w'
                    go_simp
                    with_reducible rfl
                  rotate_left
                  · simp only [Act.put, List.setIfInBounds_toArray, List.set_cons_zero, List.set_cons_succ, i64_w, i32_w]
                    rfl
                  refine take_ (i := 22) (N := some 33) (v := ?_) (a' := ?_) #[true, true, true, true, true, true, true, true, true, true, true, true, true, true, true, true, true, true, true, true, true, true, true, false, false, false, false] rfl rfl (take_ofW HT_.out HW_.out (by kernel_rfl)) (fun _ _ _ h => h) (Or.inl ⟨by rfl, ?_⟩) hHeld ?_ ?_
                  rotate_left
                  · intro w' _
                    go_simp
                    with_reducible rfl
                  rotate_left
                  · simp only [Act.put, List.setIfInBounds_toArray, List.set_cons_zero, List.set_cons_succ, i64_w, i32_w]
                    rfl
                  refine pure_ (i := 23) (N := some 34) (v := ?_) (a' := ?_) #[true, true, true, true, true, true, true, true, true, true, true, true, true, true, true, true, true, true, true, true, true, true, true, true, false, false, false] rfl rfl (any_of HT_.out (by kernel_rfl)) (fun _ _ _ h => h) (Or.inl ⟨by rfl, ?_⟩) ?_ ?_
                  rotate_left
                  · intro w'
                    go_simp
                    with_reducible rfl
                  rotate_left
                  · simp only [Act.put, List.setIfInBounds_toArray, List.set_cons_zero, List.set_cons_succ, i64_w, i32_w]
                    rfl
                  refine pure_ (i := 24) (N := some 35) (v := ?_) (a' := ?_) #[true, true, true, true, true, true, true, true, true, true, true, true, true, true, true, true, true, true, true, true, true, true, true, true, true, false, false] rfl rfl (any_of HT_.out (by kernel_rfl)) (fun _ _ _ h => h) (Or.inl ⟨by rfl, ?_⟩) ?_ ?_
                  rotate_left
                  · intro w'
                    go_simp
                    with_reducible rfl
                  rotate_left
                  · simp only [Act.put, List.setIfInBounds_toArray, List.set_cons_zero, List.set_cons_succ, i64_w, i32_w]
                    rfl
                  refine one_ (i := 25) (N := some 4) #[true, true, true, true, true, true, true, true, true, true, true, true, true, true, true, true, true, true, true, true, true, true, true, true, true, true, false] rfl rfl (one_of HT_.out (by kernel_rfl)) (by decide) (fun K hK => ?_)
                  refine box_step ?hg (N := 4) ?hd (cs := #[.int .i64 0, .int .i64 0, .int .i64 0, .string (⟨#[]⟩ : ByteArray)]) (t := 30) ?hr ?_; (case hd => rfl); (case hg => rfl); (case hr => first | (go_simp; done) | (go_simp; rfl))
                  intro gb123 hg w20 hbox hb
                  have n0_ := Aside0.mk (blk_below (g := gb122) (o := .cells #[.int .i64 0, .int .i64 0, .int .i64 0, .string (⟨#[]⟩ : ByteArray)] 30 (0, 0)) (by (with_reducible repeat (first | refine blk_drewN ?_ _ | refine blk_drew ?_ | refine blk_alloc ?_ _)); exact BK122.out) hb)
                  have n1_ := Aside0.mk (below_step (by repeat (first | (with_reducible first | exact HB.out | apply below_alloc | apply pw_below_drewN | apply below_drew1 | refine below_set ?_ GE122.out) | exact HB.out)) hb)
                  have n2_ := Aside0.mk (hbox)
                  have n3_ := Aside0.mk ((by rw [hg]; exact (below_size (by repeat (first | (with_reducible first | exact HB.out | apply below_alloc | apply pw_below_drewN | apply below_drew1 | refine below_set ?_ GE122.out) | exact HB.out))) : w.heap.size ≤ gb123))
                  have n4_ := Aside0.mk ((by rw [hg]; exact (below_size (by repeat (first | (with_reducible first | exact HB.out | apply below_alloc | apply pw_below_drewN | apply below_drew1 | refine below_set ?_ GE122.out) | exact HB.out))) : w.heap.size ≤ gb123))
                  have n5_ := Aside0.mk ((by rw [hg]; exact Nat.ne_of_lt (blk_lt (g := gb122) (o := .cells #[.int .i64 0, .int .i64 0, .int .i64 0, .string (⟨#[]⟩ : ByteArray)] 30 (0, 0)) (by (with_reducible repeat (first | refine blk_drewN ?_ _ | refine blk_drew ?_ | refine blk_alloc ?_ _)); exact BK122.out)) : gb122 ≠ gb123))
                  have n6_ := Aside0.mk ((by rw [hg]; exact Nat.ne_of_gt (blk_lt (g := gb122) (o := .cells #[.int .i64 0, .int .i64 0, .int .i64 0, .string (⟨#[]⟩ : ByteArray)] 30 (0, 0)) (by (with_reducible repeat (first | refine blk_drewN ?_ _ | refine blk_drew ?_ | refine blk_alloc ?_ _)); exact BK122.out)) : gb123 ≠ gb122))
                  clear BK122
                  clear HB
                  have BK122 := n0_
                  have HB := n1_
                  have BK123 := n2_
                  have GW123 := n3_
                  have GE123 := n4_
                  have NB122_123 := n5_
                  have NB123_122 := n6_
                  clear n0_ n1_ n2_ n3_ n4_ n5_ n6_
                  clear hb hbox hg
                  refine hK.out _ _ trivial (fun hHeld => ?_)
                  clear hK K
                  refine norm_ (a' := ?_) ?_ ?_
                  rotate_left
                  · show Act.put _ (some 4) _ = _
                    simp only [Act.put, List.setIfInBounds_toArray, List.set_cons_zero, List.set_cons_succ, i64_w, i32_w]
                    rfl
                  refine one_ (i := 26) (N := none) #[true, true, true, true, true, true, true, true, true, true, true, true, true, true, true, true, true, true, true, true, true, true, true, true, true, true, true] rfl rfl (one_of HT_.out (by kernel_rfl)) (by decide) (fun K hK => ?_)
                  have hs21 : w20.cell? ⟨gb123, 0, none⟩ = some (.int .i64 0) := (blk_cell BK123.out 0).trans rfl
                  have hfs21 := blk_frozen BK123.out 0
                  have hns21_0 := NB122_123.out
                  have hms21_0 := NB123_122.out
                  have hs22 : w20.cell? ⟨gb123, 1, none⟩ = some (.int .i64 0) := (blk_cell BK123.out 1).trans rfl
                  have hfs22 := blk_frozen BK123.out 1
                  have hns22_0 := NB122_123.out
                  have hms22_0 := NB123_122.out
                  have hs23 : w20.cell? ⟨gb123, 2, none⟩ = some (.int .i64 0) := (blk_cell BK123.out 2).trans rfl
                  have hfs23 := blk_frozen BK123.out 2
                  have hns23_0 := NB122_123.out
                  have hms23_0 := NB123_122.out
                  have hs24 : w20.cell? ⟨gb123, 3, none⟩ = some (.string (⟨#[]⟩ : ByteArray)) := (blk_cell BK123.out 3).trans rfl
                  have hfs24 := blk_frozen BK123.out 3
                  have hns24_0 := NB122_123.out
                  have hms24_0 := NB123_122.out
                  refine skip_ (w1 := ?_) (by rfl) rfl ?_ ?_
                  rotate_left
                  · go_simp
                    rfl
                  refine hK.out _ _ trivial (fun hHeld => ?_)
                  clear hK K
                  refine done_ (done_of HT_.out (by kernel_rfl)) ?_
                  have p16 : 0 ≤ (6 : Int) := (by omega)
                  have q16 : 6 < a0.size := (by have : (6 : Int) < (a0.size : Int) := of_decide_eq_true (by first | (with_reducible assumption) | assumption); omega)
                  have hx16 : ∀ h : 6 < a0.size, ((a0[6]'h).toNat : Int) = bt a0 6 := bt_at a0 6
                  clear p16
                  have qi16 : (6 < (a0.size : Int)) = True := eq_true (of_decide_eq_true (by first | (with_reducible assumption) | assumption))
                  replace q16 := eq_true q16
                  have hnb25 := NB123_122.out
                  have hnc25 := NB122_123.out
                  have hcz26_0 : w20.cell? ⟨gb123, 0, none⟩ = some (.int .i64 0) := (blk_cell BK123.out 0).trans rfl
                  have hcz26_1 : w20.cell? ⟨gb123, 1, none⟩ = some (.int .i64 0) := (blk_cell BK123.out 1).trans rfl
                  have hcz26_2 : w20.cell? ⟨gb123, 2, none⟩ = some (.int .i64 0) := (blk_cell BK123.out 2).trans rfl
                  have hcz26_3 : w20.cell? ⟨gb123, 3, none⟩ = some (.string (⟨#[]⟩ : ByteArray)) := (blk_cell BK123.out 3).trans rfl
                  have hfz26_0 := blk_frozen BK123.out 0
                  have hfz26_1 := blk_frozen BK123.out 1
                  have hfz26_2 := blk_frozen BK123.out 2
                  have hfz26_3 := blk_frozen BK123.out 3
                  go_upto_region 6 with (fail)
                  go_cut [93, 6, 9, 44, 5] (fun v93 v6 v9 v44 v5 wc => ∃ (kq : Nat) (x93_16 : Bool), v5 = .int .i64 (wrap64 (bt a0 6)) ∧ v93 = .bool x93_16 ∧ Aside0 (stevedoreref04_Tell.j0 kq a0 (wrap64 (bt a0 6)) x93_16 (wrap64 ((wrap64 ((wrap64 ((wrap64 ((wrap64 (bt a0 0)) * 16777216)) + (wrap64 ((wrap64 (bt a0 1)) * 65536)))) + (wrap64 ((wrap64 (bt a0 2)) * 256)))) + (wrap64 (bt a0 3)))) (wrap64 (bt a0 4)) (wrap64 (bt a0 5)) (⟨#[]⟩ : ByteArray) = some (r1, r2, r3, r4, r5)) ∧ Aside0 (kq ≤ k) ∧ Aside0 (wc.heap[gb122]? = some (.cells #[.int .i64 0, .int .i64 0, .int .i64 0, .string (⟨#[]⟩ : ByteArray)] 30 (0, 0))) ∧ Aside0 (wc.heap[gb123]? = some (.cells #[.int .i64 (wrap64 ((wrap64 ((wrap64 ((wrap64 ((wrap64 (bt a0 0)) * 16777216)) + (wrap64 ((wrap64 (bt a0 1)) * 65536)))) + (wrap64 ((wrap64 (bt a0 2)) * 256)))) + (wrap64 (bt a0 3)))), .int .i64 (wrap64 (bt a0 4)), .int .i64 (wrap64 (bt a0 5)), .string (⟨#[]⟩ : ByteArray)] 30 (0, 0))) ∧ Aside0 (Below w.heap.size w wc))
                  case first =>
                    have H := HC17.out
                    clear HC17
                    by_cases c27 : (wrap64 ((wrap64 ((wrap64 ((wrap64 ((wrap64 (bt a0 0)) * 16777216)) + (wrap64 ((wrap64 (bt a0 1)) * 65536)))) + (wrap64 ((wrap64 (bt a0 2)) * 256)))) + (wrap64 (bt a0 3)))) < 1
                    · rw [if_pos c27] at H
                      have c27b0 : decide ((wrap64 ((wrap64 ((wrap64 ((wrap64 ((wrap64 (bt a0 0)) * 16777216)) + (wrap64 ((wrap64 (bt a0 1)) * 65536)))) + (wrap64 ((wrap64 (bt a0 2)) * 256)))) + (wrap64 (bt a0 3)))) < 1) = true := decide_eq_true c27
                      clear c27
                      (first | rw [c27b0] | (simp only [i64_w, i32_w]; rw [c27b0]) | skip)
                      have H' := Aside0.mk H
                      clear H
                      have hnb28 := NB123_122.out
                      have hnc28 := NB122_123.out
                      have hcz29_0 : w20.cell? ⟨gb123, 0, none⟩ = some (.int .i64 0) := (blk_cell BK123.out 0).trans rfl
                      have hcz29_1 : w20.cell? ⟨gb123, 1, none⟩ = some (.int .i64 0) := (blk_cell BK123.out 1).trans rfl
                      have hcz29_2 : w20.cell? ⟨gb123, 2, none⟩ = some (.int .i64 0) := (blk_cell BK123.out 2).trans rfl
                      have hcz29_3 : w20.cell? ⟨gb123, 3, none⟩ = some (.string (⟨#[]⟩ : ByteArray)) := (blk_cell BK123.out 3).trans rfl
                      have hfz29_0 := blk_frozen BK123.out 0
                      have hfz29_1 := blk_frozen BK123.out 1
                      have hfz29_2 := blk_frozen BK123.out 2
                      have hfz29_3 := blk_frozen BK123.out 3
                      go_wp2
                      go_meet
                      case rel => exact ⟨_, (true), (by first | rfl | (simp; done) | (simp [*]; done)), (by first | rfl | (simp; done) | (simp [*]; done)), H', ⟨by first | omega | exact Nat.le_refl _⟩, ⟨by (with_reducible repeat (first | refine blk_drewN ?_ _ | refine blk_drew ?_ | refine blk_alloc ?_ _)); refine blk_far ?_ NB122_123.out _; (with_reducible repeat (first | refine blk_drewN ?_ _ | refine blk_drew ?_ | refine blk_alloc ?_ _)); refine blk_far ?_ NB122_123.out _; (with_reducible repeat (first | refine blk_drewN ?_ _ | refine blk_drew ?_ | refine blk_alloc ?_ _)); refine blk_far ?_ NB122_123.out _; (with_reducible repeat (first | refine blk_drewN ?_ _ | refine blk_drew ?_ | refine blk_alloc ?_ _)); refine blk_far ?_ NB122_123.out _; (with_reducible repeat (first | refine blk_drewN ?_ _ | refine blk_drew ?_ | refine blk_alloc ?_ _)); exact BK122.out⟩, ⟨by (with_reducible repeat (first | refine blk_drewN ?_ _ | refine blk_drew ?_ | refine blk_alloc ?_ _)); refine blk_put (cs := #[.int .i64 (wrap64 ((wrap64 ((wrap64 ((wrap64 ((wrap64 (bt a0 0)) * 16777216)) + (wrap64 ((wrap64 (bt a0 1)) * 65536)))) + (wrap64 ((wrap64 (bt a0 2)) * 256)))) + (wrap64 (bt a0 3)))), .int .i64 (wrap64 (bt a0 4)), .int .i64 (wrap64 (bt a0 5)), .string (⟨#[]⟩ : ByteArray)]) ?_ 3 _ rfl; (with_reducible repeat (first | refine blk_drewN ?_ _ | refine blk_drew ?_ | refine blk_alloc ?_ _)); refine blk_put (cs := #[.int .i64 (wrap64 ((wrap64 ((wrap64 ((wrap64 ((wrap64 (bt a0 0)) * 16777216)) + (wrap64 ((wrap64 (bt a0 1)) * 65536)))) + (wrap64 ((wrap64 (bt a0 2)) * 256)))) + (wrap64 (bt a0 3)))), .int .i64 (wrap64 (bt a0 4)), .int .i64 0, .string (⟨#[]⟩ : ByteArray)]) ?_ 2 _ rfl; (with_reducible repeat (first | refine blk_drewN ?_ _ | refine blk_drew ?_ | refine blk_alloc ?_ _)); refine blk_put (cs := #[.int .i64 (wrap64 ((wrap64 ((wrap64 ((wrap64 ((wrap64 (bt a0 0)) * 16777216)) + (wrap64 ((wrap64 (bt a0 1)) * 65536)))) + (wrap64 ((wrap64 (bt a0 2)) * 256)))) + (wrap64 (bt a0 3)))), .int .i64 0, .int .i64 0, .string (⟨#[]⟩ : ByteArray)]) ?_ 1 _ rfl; (with_reducible repeat (first | refine blk_drewN ?_ _ | refine blk_drew ?_ | refine blk_alloc ?_ _)); refine blk_put (cs := #[.int .i64 0, .int .i64 0, .int .i64 0, .string (⟨#[]⟩ : ByteArray)]) ?_ 0 _ rfl; (with_reducible repeat (first | refine blk_drewN ?_ _ | refine blk_drew ?_ | refine blk_alloc ?_ _)); exact BK123.out⟩, ⟨by repeat (first | (with_reducible first | exact HB.out | apply below_alloc | apply pw_below_drewN | apply below_drew1 | refine below_set ?_ GE122.out | refine below_set ?_ GE123.out) | exact HB.out)⟩⟩
                    · rw [if_neg c27] at H
                      have c27b0 : decide ((wrap64 ((wrap64 ((wrap64 ((wrap64 ((wrap64 (bt a0 0)) * 16777216)) + (wrap64 ((wrap64 (bt a0 1)) * 65536)))) + (wrap64 ((wrap64 (bt a0 2)) * 256)))) + (wrap64 (bt a0 3)))) < 1) = false := decide_eq_false c27
                      clear c27
                      (first | rw [c27b0] | (simp only [i64_w, i32_w]; rw [c27b0]) | skip)
                      by_cases c30 : (wrap64 ((wrap64 ((wrap64 ((wrap64 ((wrap64 (bt a0 0)) * 16777216)) + (wrap64 ((wrap64 (bt a0 1)) * 65536)))) + (wrap64 ((wrap64 (bt a0 2)) * 256)))) + (wrap64 (bt a0 3)))) > 2147483647
                      · rw [if_pos c30] at H
                        have c30b0 : decide (2147483647 < (wrap64 ((wrap64 ((wrap64 ((wrap64 ((wrap64 (bt a0 0)) * 16777216)) + (wrap64 ((wrap64 (bt a0 1)) * 65536)))) + (wrap64 ((wrap64 (bt a0 2)) * 256)))) + (wrap64 (bt a0 3))))) = true := decide_eq_true c30
                        clear c30
                        have H' := Aside0.mk H
                        clear H
                        have hnb31 := NB123_122.out
                        have hnc31 := NB122_123.out
                        have hcz32_0 : w20.cell? ⟨gb123, 0, none⟩ = some (.int .i64 0) := (blk_cell BK123.out 0).trans rfl
                        have hcz32_1 : w20.cell? ⟨gb123, 1, none⟩ = some (.int .i64 0) := (blk_cell BK123.out 1).trans rfl
                        have hcz32_2 : w20.cell? ⟨gb123, 2, none⟩ = some (.int .i64 0) := (blk_cell BK123.out 2).trans rfl
                        have hcz32_3 : w20.cell? ⟨gb123, 3, none⟩ = some (.string (⟨#[]⟩ : ByteArray)) := (blk_cell BK123.out 3).trans rfl
                        have hfz32_0 := blk_frozen BK123.out 0
                        have hfz32_1 := blk_frozen BK123.out 1
                        have hfz32_2 := blk_frozen BK123.out 2
                        have hfz32_3 := blk_frozen BK123.out 3
                        go_wp2
                        go_meet
                        case rel => exact ⟨_, (true), (by first | rfl | (simp; done) | (simp [*]; done)), (by first | rfl | (simp; done) | (simp [*]; done)), H', ⟨by first | omega | exact Nat.le_refl _⟩, ⟨by (with_reducible repeat (first | refine blk_drewN ?_ _ | refine blk_drew ?_ | refine blk_alloc ?_ _)); refine blk_far ?_ NB122_123.out _; (with_reducible repeat (first | refine blk_drewN ?_ _ | refine blk_drew ?_ | refine blk_alloc ?_ _)); refine blk_far ?_ NB122_123.out _; (with_reducible repeat (first | refine blk_drewN ?_ _ | refine blk_drew ?_ | refine blk_alloc ?_ _)); refine blk_far ?_ NB122_123.out _; (with_reducible repeat (first | refine blk_drewN ?_ _ | refine blk_drew ?_ | refine blk_alloc ?_ _)); refine blk_far ?_ NB122_123.out _; (with_reducible repeat (first | refine blk_drewN ?_ _ | refine blk_drew ?_ | refine blk_alloc ?_ _)); exact BK122.out⟩, ⟨by (with_reducible repeat (first | refine blk_drewN ?_ _ | refine blk_drew ?_ | refine blk_alloc ?_ _)); refine blk_put (cs := #[.int .i64 (wrap64 ((wrap64 ((wrap64 ((wrap64 ((wrap64 (bt a0 0)) * 16777216)) + (wrap64 ((wrap64 (bt a0 1)) * 65536)))) + (wrap64 ((wrap64 (bt a0 2)) * 256)))) + (wrap64 (bt a0 3)))), .int .i64 (wrap64 (bt a0 4)), .int .i64 (wrap64 (bt a0 5)), .string (⟨#[]⟩ : ByteArray)]) ?_ 3 _ rfl; (with_reducible repeat (first | refine blk_drewN ?_ _ | refine blk_drew ?_ | refine blk_alloc ?_ _)); refine blk_put (cs := #[.int .i64 (wrap64 ((wrap64 ((wrap64 ((wrap64 ((wrap64 (bt a0 0)) * 16777216)) + (wrap64 ((wrap64 (bt a0 1)) * 65536)))) + (wrap64 ((wrap64 (bt a0 2)) * 256)))) + (wrap64 (bt a0 3)))), .int .i64 (wrap64 (bt a0 4)), .int .i64 0, .string (⟨#[]⟩ : ByteArray)]) ?_ 2 _ rfl; (with_reducible repeat (first | refine blk_drewN ?_ _ | refine blk_drew ?_ | refine blk_alloc ?_ _)); refine blk_put (cs := #[.int .i64 (wrap64 ((wrap64 ((wrap64 ((wrap64 ((wrap64 (bt a0 0)) * 16777216)) + (wrap64 ((wrap64 (bt a0 1)) * 65536)))) + (wrap64 ((wrap64 (bt a0 2)) * 256)))) + (wrap64 (bt a0 3)))), .int .i64 0, .int .i64 0, .string (⟨#[]⟩ : ByteArray)]) ?_ 1 _ rfl; (with_reducible repeat (first | refine blk_drewN ?_ _ | refine blk_drew ?_ | refine blk_alloc ?_ _)); refine blk_put (cs := #[.int .i64 0, .int .i64 0, .int .i64 0, .string (⟨#[]⟩ : ByteArray)]) ?_ 0 _ rfl; (with_reducible repeat (first | refine blk_drewN ?_ _ | refine blk_drew ?_ | refine blk_alloc ?_ _)); exact BK123.out⟩, ⟨by repeat (first | (with_reducible first | exact HB.out | apply below_alloc | apply pw_below_drewN | apply below_drew1 | refine below_set ?_ GE122.out | refine below_set ?_ GE123.out) | exact HB.out)⟩⟩
                      · rw [if_neg c30] at H
                        have c30b0 : decide (2147483647 < (wrap64 ((wrap64 ((wrap64 ((wrap64 ((wrap64 (bt a0 0)) * 16777216)) + (wrap64 ((wrap64 (bt a0 1)) * 65536)))) + (wrap64 ((wrap64 (bt a0 2)) * 256)))) + (wrap64 (bt a0 3))))) = false := decide_eq_false c30
                        clear c30
                        by_cases c33 : (wrap64 (bt a0 5)) < 1
                        · rw [if_pos c33] at H
                          have c33b0 : decide ((wrap64 (bt a0 5)) < 1) = true := decide_eq_true c33
                          clear c33
                          have H' := Aside0.mk H
                          clear H
                          have hnb34 := NB123_122.out
                          have hnc34 := NB122_123.out
                          have hcz35_0 : w20.cell? ⟨gb123, 0, none⟩ = some (.int .i64 0) := (blk_cell BK123.out 0).trans rfl
                          have hcz35_1 : w20.cell? ⟨gb123, 1, none⟩ = some (.int .i64 0) := (blk_cell BK123.out 1).trans rfl
                          have hcz35_2 : w20.cell? ⟨gb123, 2, none⟩ = some (.int .i64 0) := (blk_cell BK123.out 2).trans rfl
                          have hcz35_3 : w20.cell? ⟨gb123, 3, none⟩ = some (.string (⟨#[]⟩ : ByteArray)) := (blk_cell BK123.out 3).trans rfl
                          have hfz35_0 := blk_frozen BK123.out 0
                          have hfz35_1 := blk_frozen BK123.out 1
                          have hfz35_2 := blk_frozen BK123.out 2
                          have hfz35_3 := blk_frozen BK123.out 3
                          go_wp2
                          go_meet
                          case rel => exact ⟨_, (true), (by first | rfl | (simp; done) | (simp [*]; done)), (by first | rfl | (simp; done) | (simp [*]; done)), H', ⟨by first | omega | exact Nat.le_refl _⟩, ⟨by (with_reducible repeat (first | refine blk_drewN ?_ _ | refine blk_drew ?_ | refine blk_alloc ?_ _)); refine blk_far ?_ NB122_123.out _; (with_reducible repeat (first | refine blk_drewN ?_ _ | refine blk_drew ?_ | refine blk_alloc ?_ _)); refine blk_far ?_ NB122_123.out _; (with_reducible repeat (first | refine blk_drewN ?_ _ | refine blk_drew ?_ | refine blk_alloc ?_ _)); refine blk_far ?_ NB122_123.out _; (with_reducible repeat (first | refine blk_drewN ?_ _ | refine blk_drew ?_ | refine blk_alloc ?_ _)); refine blk_far ?_ NB122_123.out _; (with_reducible repeat (first | refine blk_drewN ?_ _ | refine blk_drew ?_ | refine blk_alloc ?_ _)); exact BK122.out⟩, ⟨by (with_reducible repeat (first | refine blk_drewN ?_ _ | refine blk_drew ?_ | refine blk_alloc ?_ _)); refine blk_put (cs := #[.int .i64 (wrap64 ((wrap64 ((wrap64 ((wrap64 ((wrap64 (bt a0 0)) * 16777216)) + (wrap64 ((wrap64 (bt a0 1)) * 65536)))) + (wrap64 ((wrap64 (bt a0 2)) * 256)))) + (wrap64 (bt a0 3)))), .int .i64 (wrap64 (bt a0 4)), .int .i64 (wrap64 (bt a0 5)), .string (⟨#[]⟩ : ByteArray)]) ?_ 3 _ rfl; (with_reducible repeat (first | refine blk_drewN ?_ _ | refine blk_drew ?_ | refine blk_alloc ?_ _)); refine blk_put (cs := #[.int .i64 (wrap64 ((wrap64 ((wrap64 ((wrap64 ((wrap64 (bt a0 0)) * 16777216)) + (wrap64 ((wrap64 (bt a0 1)) * 65536)))) + (wrap64 ((wrap64 (bt a0 2)) * 256)))) + (wrap64 (bt a0 3)))), .int .i64 (wrap64 (bt a0 4)), .int .i64 0, .string (⟨#[]⟩ : ByteArray)]) ?_ 2 _ rfl; (with_reducible repeat (first | refine blk_drewN ?_ _ | refine blk_drew ?_ | refine blk_alloc ?_ _)); refine blk_put (cs := #[.int .i64 (wrap64 ((wrap64 ((wrap64 ((wrap64 ((wrap64 (bt a0 0)) * 16777216)) + (wrap64 ((wrap64 (bt a0 1)) * 65536)))) + (wrap64 ((wrap64 (bt a0 2)) * 256)))) + (wrap64 (bt a0 3)))), .int .i64 0, .int .i64 0, .string (⟨#[]⟩ : ByteArray)]) ?_ 1 _ rfl; (with_reducible repeat (first | refine blk_drewN ?_ _ | refine blk_drew ?_ | refine blk_alloc ?_ _)); refine blk_put (cs := #[.int .i64 0, .int .i64 0, .int .i64 0, .string (⟨#[]⟩ : ByteArray)]) ?_ 0 _ rfl; (with_reducible repeat (first | refine blk_drewN ?_ _ | refine blk_drew ?_ | refine blk_alloc ?_ _)); exact BK123.out⟩, ⟨by repeat (first | (with_reducible first | exact HB.out | apply below_alloc | apply pw_below_drewN | apply below_drew1 | refine below_set ?_ GE122.out | refine below_set ?_ GE123.out) | exact HB.out)⟩⟩
                        · rw [if_neg c33] at H
                          have c33b0 : decide ((wrap64 (bt a0 5)) < 1) = false := decide_eq_false c33
                          clear c33
                          by_cases c36 : (wrap64 (bt a0 5)) > 8
                          · rw [if_pos c36] at H
                            have c36b0 : decide (8 < (wrap64 (bt a0 5))) = true := decide_eq_true c36
                            clear c36
                            have H' := Aside0.mk H
                            clear H
                            have hnb37 := NB123_122.out
                            have hnc37 := NB122_123.out
                            have hcz38_0 : w20.cell? ⟨gb123, 0, none⟩ = some (.int .i64 0) := (blk_cell BK123.out 0).trans rfl
                            have hcz38_1 : w20.cell? ⟨gb123, 1, none⟩ = some (.int .i64 0) := (blk_cell BK123.out 1).trans rfl
                            have hcz38_2 : w20.cell? ⟨gb123, 2, none⟩ = some (.int .i64 0) := (blk_cell BK123.out 2).trans rfl
                            have hcz38_3 : w20.cell? ⟨gb123, 3, none⟩ = some (.string (⟨#[]⟩ : ByteArray)) := (blk_cell BK123.out 3).trans rfl
                            have hfz38_0 := blk_frozen BK123.out 0
                            have hfz38_1 := blk_frozen BK123.out 1
                            have hfz38_2 := blk_frozen BK123.out 2
                            have hfz38_3 := blk_frozen BK123.out 3
                            go_wp2
                            go_meet
                            case rel => exact ⟨_, (true), (by first | rfl | (simp; done) | (simp [*]; done)), (by first | rfl | (simp; done) | (simp [*]; done)), H', ⟨by first | omega | exact Nat.le_refl _⟩, ⟨by (with_reducible repeat (first | refine blk_drewN ?_ _ | refine blk_drew ?_ | refine blk_alloc ?_ _)); refine blk_far ?_ NB122_123.out _; (with_reducible repeat (first | refine blk_drewN ?_ _ | refine blk_drew ?_ | refine blk_alloc ?_ _)); refine blk_far ?_ NB122_123.out _; (with_reducible repeat (first | refine blk_drewN ?_ _ | refine blk_drew ?_ | refine blk_alloc ?_ _)); refine blk_far ?_ NB122_123.out _; (with_reducible repeat (first | refine blk_drewN ?_ _ | refine blk_drew ?_ | refine blk_alloc ?_ _)); refine blk_far ?_ NB122_123.out _; (with_reducible repeat (first | refine blk_drewN ?_ _ | refine blk_drew ?_ | refine blk_alloc ?_ _)); exact BK122.out⟩, ⟨by (with_reducible repeat (first | refine blk_drewN ?_ _ | refine blk_drew ?_ | refine blk_alloc ?_ _)); refine blk_put (cs := #[.int .i64 (wrap64 ((wrap64 ((wrap64 ((wrap64 ((wrap64 (bt a0 0)) * 16777216)) + (wrap64 ((wrap64 (bt a0 1)) * 65536)))) + (wrap64 ((wrap64 (bt a0 2)) * 256)))) + (wrap64 (bt a0 3)))), .int .i64 (wrap64 (bt a0 4)), .int .i64 (wrap64 (bt a0 5)), .string (⟨#[]⟩ : ByteArray)]) ?_ 3 _ rfl; (with_reducible repeat (first | refine blk_drewN ?_ _ | refine blk_drew ?_ | refine blk_alloc ?_ _)); refine blk_put (cs := #[.int .i64 (wrap64 ((wrap64 ((wrap64 ((wrap64 ((wrap64 (bt a0 0)) * 16777216)) + (wrap64 ((wrap64 (bt a0 1)) * 65536)))) + (wrap64 ((wrap64 (bt a0 2)) * 256)))) + (wrap64 (bt a0 3)))), .int .i64 (wrap64 (bt a0 4)), .int .i64 0, .string (⟨#[]⟩ : ByteArray)]) ?_ 2 _ rfl; (with_reducible repeat (first | refine blk_drewN ?_ _ | refine blk_drew ?_ | refine blk_alloc ?_ _)); refine blk_put (cs := #[.int .i64 (wrap64 ((wrap64 ((wrap64 ((wrap64 ((wrap64 (bt a0 0)) * 16777216)) + (wrap64 ((wrap64 (bt a0 1)) * 65536)))) + (wrap64 ((wrap64 (bt a0 2)) * 256)))) + (wrap64 (bt a0 3)))), .int .i64 0, .int .i64 0, .string (⟨#[]⟩ : ByteArray)]) ?_ 1 _ rfl; (with_reducible repeat (first | refine blk_drewN ?_ _ | refine blk_drew ?_ | refine blk_alloc ?_ _)); refine blk_put (cs := #[.int .i64 0, .int .i64 0, .int .i64 0, .string (⟨#[]⟩ : ByteArray)]) ?_ 0 _ rfl; (with_reducible repeat (first | refine blk_drewN ?_ _ | refine blk_drew ?_ | refine blk_alloc ?_ _)); exact BK123.out⟩, ⟨by repeat (first | (with_reducible first | exact HB.out | apply below_alloc | apply pw_below_drewN | apply below_drew1 | refine below_set ?_ GE122.out | refine below_set ?_ GE123.out) | exact HB.out)⟩⟩
                          · rw [if_neg c36] at H
                            have c36b0 : decide (8 < (wrap64 (bt a0 5))) = false := decide_eq_false c36
                            clear c36
                            by_cases c39 : (wrap64 (bt a0 4)) ≥ (wrap64 (bt a0 5))
                            · rw [if_pos c39] at H
                              have c39b0 : decide ((wrap64 (bt a0 5)) ≤ (wrap64 (bt a0 4))) = true := decide_eq_true c39
                              clear c39
                              have H' := Aside0.mk H
                              clear H
                              have hnb40 := NB123_122.out
                              have hnc40 := NB122_123.out
                              have hcz41_0 : w20.cell? ⟨gb123, 0, none⟩ = some (.int .i64 0) := (blk_cell BK123.out 0).trans rfl
                              have hcz41_1 : w20.cell? ⟨gb123, 1, none⟩ = some (.int .i64 0) := (blk_cell BK123.out 1).trans rfl
                              have hcz41_2 : w20.cell? ⟨gb123, 2, none⟩ = some (.int .i64 0) := (blk_cell BK123.out 2).trans rfl
                              have hcz41_3 : w20.cell? ⟨gb123, 3, none⟩ = some (.string (⟨#[]⟩ : ByteArray)) := (blk_cell BK123.out 3).trans rfl
                              have hfz41_0 := blk_frozen BK123.out 0
                              have hfz41_1 := blk_frozen BK123.out 1
                              have hfz41_2 := blk_frozen BK123.out 2
                              have hfz41_3 := blk_frozen BK123.out 3
                              go_wp2
                              go_meet
                              case rel => exact ⟨_, (true), (by first | rfl | (simp; done) | (simp [*]; done)), (by first | rfl | (simp; done) | (simp [*]; done)), H', ⟨by first | omega | exact Nat.le_refl _⟩, ⟨by (with_reducible repeat (first | refine blk_drewN ?_ _ | refine blk_drew ?_ | refine blk_alloc ?_ _)); refine blk_far ?_ NB122_123.out _; (with_reducible repeat (first | refine blk_drewN ?_ _ | refine blk_drew ?_ | refine blk_alloc ?_ _)); refine blk_far ?_ NB122_123.out _; (with_reducible repeat (first | refine blk_drewN ?_ _ | refine blk_drew ?_ | refine blk_alloc ?_ _)); refine blk_far ?_ NB122_123.out _; (with_reducible repeat (first | refine blk_drewN ?_ _ | refine blk_drew ?_ | refine blk_alloc ?_ _)); refine blk_far ?_ NB122_123.out _; (with_reducible repeat (first | refine blk_drewN ?_ _ | refine blk_drew ?_ | refine blk_alloc ?_ _)); exact BK122.out⟩, ⟨by (with_reducible repeat (first | refine blk_drewN ?_ _ | refine blk_drew ?_ | refine blk_alloc ?_ _)); refine blk_put (cs := #[.int .i64 (wrap64 ((wrap64 ((wrap64 ((wrap64 ((wrap64 (bt a0 0)) * 16777216)) + (wrap64 ((wrap64 (bt a0 1)) * 65536)))) + (wrap64 ((wrap64 (bt a0 2)) * 256)))) + (wrap64 (bt a0 3)))), .int .i64 (wrap64 (bt a0 4)), .int .i64 (wrap64 (bt a0 5)), .string (⟨#[]⟩ : ByteArray)]) ?_ 3 _ rfl; (with_reducible repeat (first | refine blk_drewN ?_ _ | refine blk_drew ?_ | refine blk_alloc ?_ _)); refine blk_put (cs := #[.int .i64 (wrap64 ((wrap64 ((wrap64 ((wrap64 ((wrap64 (bt a0 0)) * 16777216)) + (wrap64 ((wrap64 (bt a0 1)) * 65536)))) + (wrap64 ((wrap64 (bt a0 2)) * 256)))) + (wrap64 (bt a0 3)))), .int .i64 (wrap64 (bt a0 4)), .int .i64 0, .string (⟨#[]⟩ : ByteArray)]) ?_ 2 _ rfl; (with_reducible repeat (first | refine blk_drewN ?_ _ | refine blk_drew ?_ | refine blk_alloc ?_ _)); refine blk_put (cs := #[.int .i64 (wrap64 ((wrap64 ((wrap64 ((wrap64 ((wrap64 (bt a0 0)) * 16777216)) + (wrap64 ((wrap64 (bt a0 1)) * 65536)))) + (wrap64 ((wrap64 (bt a0 2)) * 256)))) + (wrap64 (bt a0 3)))), .int .i64 0, .int .i64 0, .string (⟨#[]⟩ : ByteArray)]) ?_ 1 _ rfl; (with_reducible repeat (first | refine blk_drewN ?_ _ | refine blk_drew ?_ | refine blk_alloc ?_ _)); refine blk_put (cs := #[.int .i64 0, .int .i64 0, .int .i64 0, .string (⟨#[]⟩ : ByteArray)]) ?_ 0 _ rfl; (with_reducible repeat (first | refine blk_drewN ?_ _ | refine blk_drew ?_ | refine blk_alloc ?_ _)); exact BK123.out⟩, ⟨by repeat (first | (with_reducible first | exact HB.out | apply below_alloc | apply pw_below_drewN | apply below_drew1 | refine below_set ?_ GE122.out | refine below_set ?_ GE123.out) | exact HB.out)⟩⟩
                            · rw [if_neg c39] at H
                              have c39b0 : decide ((wrap64 (bt a0 5)) ≤ (wrap64 (bt a0 4))) = false := decide_eq_false c39
                              clear c39
                              by_cases c42 : (wrap64 (bt a0 6)) > 55
                              · rw [if_pos c42] at H
                                have c42b0 : decide (55 < (wrap64 (bt a0 6))) = true := decide_eq_true c42
                                clear c42
                                have H' := Aside0.mk H
                                clear H
                                have hnb43 := NB123_122.out
                                have hnc43 := NB122_123.out
                                have hcz44_0 : w20.cell? ⟨gb123, 0, none⟩ = some (.int .i64 0) := (blk_cell BK123.out 0).trans rfl
                                have hcz44_1 : w20.cell? ⟨gb123, 1, none⟩ = some (.int .i64 0) := (blk_cell BK123.out 1).trans rfl
                                have hcz44_2 : w20.cell? ⟨gb123, 2, none⟩ = some (.int .i64 0) := (blk_cell BK123.out 2).trans rfl
                                have hcz44_3 : w20.cell? ⟨gb123, 3, none⟩ = some (.string (⟨#[]⟩ : ByteArray)) := (blk_cell BK123.out 3).trans rfl
                                have hfz44_0 := blk_frozen BK123.out 0
                                have hfz44_1 := blk_frozen BK123.out 1
                                have hfz44_2 := blk_frozen BK123.out 2
                                have hfz44_3 := blk_frozen BK123.out 3
                                go_wp2
                                go_meet
                                case rel => exact ⟨_, (true), (by first | rfl | (simp; done) | (simp [*]; done)), (by first | rfl | (simp; done) | (simp [*]; done)), H', ⟨by first | omega | exact Nat.le_refl _⟩, ⟨by (with_reducible repeat (first | refine blk_drewN ?_ _ | refine blk_drew ?_ | refine blk_alloc ?_ _)); refine blk_far ?_ NB122_123.out _; (with_reducible repeat (first | refine blk_drewN ?_ _ | refine blk_drew ?_ | refine blk_alloc ?_ _)); refine blk_far ?_ NB122_123.out _; (with_reducible repeat (first | refine blk_drewN ?_ _ | refine blk_drew ?_ | refine blk_alloc ?_ _)); refine blk_far ?_ NB122_123.out _; (with_reducible repeat (first | refine blk_drewN ?_ _ | refine blk_drew ?_ | refine blk_alloc ?_ _)); refine blk_far ?_ NB122_123.out _; (with_reducible repeat (first | refine blk_drewN ?_ _ | refine blk_drew ?_ | refine blk_alloc ?_ _)); exact BK122.out⟩, ⟨by (with_reducible repeat (first | refine blk_drewN ?_ _ | refine blk_drew ?_ | refine blk_alloc ?_ _)); refine blk_put (cs := #[.int .i64 (wrap64 ((wrap64 ((wrap64 ((wrap64 ((wrap64 (bt a0 0)) * 16777216)) + (wrap64 ((wrap64 (bt a0 1)) * 65536)))) + (wrap64 ((wrap64 (bt a0 2)) * 256)))) + (wrap64 (bt a0 3)))), .int .i64 (wrap64 (bt a0 4)), .int .i64 (wrap64 (bt a0 5)), .string (⟨#[]⟩ : ByteArray)]) ?_ 3 _ rfl; (with_reducible repeat (first | refine blk_drewN ?_ _ | refine blk_drew ?_ | refine blk_alloc ?_ _)); refine blk_put (cs := #[.int .i64 (wrap64 ((wrap64 ((wrap64 ((wrap64 ((wrap64 (bt a0 0)) * 16777216)) + (wrap64 ((wrap64 (bt a0 1)) * 65536)))) + (wrap64 ((wrap64 (bt a0 2)) * 256)))) + (wrap64 (bt a0 3)))), .int .i64 (wrap64 (bt a0 4)), .int .i64 0, .string (⟨#[]⟩ : ByteArray)]) ?_ 2 _ rfl; (with_reducible repeat (first | refine blk_drewN ?_ _ | refine blk_drew ?_ | refine blk_alloc ?_ _)); refine blk_put (cs := #[.int .i64 (wrap64 ((wrap64 ((wrap64 ((wrap64 ((wrap64 (bt a0 0)) * 16777216)) + (wrap64 ((wrap64 (bt a0 1)) * 65536)))) + (wrap64 ((wrap64 (bt a0 2)) * 256)))) + (wrap64 (bt a0 3)))), .int .i64 0, .int .i64 0, .string (⟨#[]⟩ : ByteArray)]) ?_ 1 _ rfl; (with_reducible repeat (first | refine blk_drewN ?_ _ | refine blk_drew ?_ | refine blk_alloc ?_ _)); refine blk_put (cs := #[.int .i64 0, .int .i64 0, .int .i64 0, .string (⟨#[]⟩ : ByteArray)]) ?_ 0 _ rfl; (with_reducible repeat (first | refine blk_drewN ?_ _ | refine blk_drew ?_ | refine blk_alloc ?_ _)); exact BK123.out⟩, ⟨by repeat (first | (with_reducible first | exact HB.out | apply below_alloc | apply pw_below_drewN | apply below_drew1 | refine below_set ?_ GE122.out | refine below_set ?_ GE123.out) | exact HB.out)⟩⟩
                              · rw [if_neg c42] at H
                                have c42b0 : decide (55 < (wrap64 (bt a0 6))) = false := decide_eq_false c42
                                clear c42
                                by_cases c45 : ((wrap64 (bt a0 4)) = (wrap64 ((wrap64 (bt a0 5)) - 1)))
                                · rw [if_pos c45] at H
                                  have c45b0 : ((wrap64 (bt a0 4)) == (wrap64 ((wrap64 (bt a0 5)) - 1))) = true := beq_iff_eq.mpr c45
                                  have c45b1 : ((wrap64 (bt a0 4)) != (wrap64 ((wrap64 (bt a0 5)) - 1))) = false := bne_eq_false_iff_eq.mpr c45
                                  clear c45
                                  by_cases c46 : (wrap64 (bt a0 4)) = (wrap64 ((wrap64 (bt a0 5)) - 1))
                                  · rw [if_pos c46] at H
                                    have c46b0 : ((wrap64 (bt a0 4)) == (wrap64 ((wrap64 (bt a0 5)) - 1))) = true := beq_iff_eq.mpr c46
                                    have c46b1 : ((wrap64 (bt a0 4)) != (wrap64 ((wrap64 (bt a0 5)) - 1))) = false := bne_eq_false_iff_eq.mpr c46
                                    clear c46
                                    by_cases c47 : (wrap64 (bt a0 6)) = 0
                                    · rw [if_pos c47] at H
                                      have c47b0 : ((wrap64 (bt a0 6)) == 0) = true := beq_iff_eq.mpr c47
                                      have c47b1 : ((wrap64 (bt a0 6)) != 0) = false := bne_eq_false_iff_eq.mpr c47
                                      clear c47
                                      have H' := Aside0.mk H
                                      clear H
                                      have hnb48 := NB123_122.out
                                      have hnc48 := NB122_123.out
                                      have hcz49_0 : w20.cell? ⟨gb123, 0, none⟩ = some (.int .i64 0) := (blk_cell BK123.out 0).trans rfl
                                      have hcz49_1 : w20.cell? ⟨gb123, 1, none⟩ = some (.int .i64 0) := (blk_cell BK123.out 1).trans rfl
                                      have hcz49_2 : w20.cell? ⟨gb123, 2, none⟩ = some (.int .i64 0) := (blk_cell BK123.out 2).trans rfl
                                      have hcz49_3 : w20.cell? ⟨gb123, 3, none⟩ = some (.string (⟨#[]⟩ : ByteArray)) := (blk_cell BK123.out 3).trans rfl
                                      have hfz49_0 := blk_frozen BK123.out 0
                                      have hfz49_1 := blk_frozen BK123.out 1
                                      have hfz49_2 := blk_frozen BK123.out 2
                                      have hfz49_3 := blk_frozen BK123.out 3
                                      go_wp2
                                      go_meet
                                      case rel => exact ⟨_, (decide ((wrap64 (bt a0 5)) > 1)), (by first | rfl | (simp; done) | (simp [*]; done)), (by first | rfl | (simp; done) | (simp [*]; done)), H', ⟨by first | omega | exact Nat.le_refl _⟩, ⟨by (with_reducible repeat (first | refine blk_drewN ?_ _ | refine blk_drew ?_ | refine blk_alloc ?_ _)); refine blk_far ?_ NB122_123.out _; (with_reducible repeat (first | refine blk_drewN ?_ _ | refine blk_drew ?_ | refine blk_alloc ?_ _)); refine blk_far ?_ NB122_123.out _; (with_reducible repeat (first | refine blk_drewN ?_ _ | refine blk_drew ?_ | refine blk_alloc ?_ _)); refine blk_far ?_ NB122_123.out _; (with_reducible repeat (first | refine blk_drewN ?_ _ | refine blk_drew ?_ | refine blk_alloc ?_ _)); refine blk_far ?_ NB122_123.out _; (with_reducible repeat (first | refine blk_drewN ?_ _ | refine blk_drew ?_ | refine blk_alloc ?_ _)); exact BK122.out⟩, ⟨by (with_reducible repeat (first | refine blk_drewN ?_ _ | refine blk_drew ?_ | refine blk_alloc ?_ _)); refine blk_put (cs := #[.int .i64 (wrap64 ((wrap64 ((wrap64 ((wrap64 ((wrap64 (bt a0 0)) * 16777216)) + (wrap64 ((wrap64 (bt a0 1)) * 65536)))) + (wrap64 ((wrap64 (bt a0 2)) * 256)))) + (wrap64 (bt a0 3)))), .int .i64 (wrap64 (bt a0 4)), .int .i64 (wrap64 (bt a0 5)), .string (⟨#[]⟩ : ByteArray)]) ?_ 3 _ rfl; (with_reducible repeat (first | refine blk_drewN ?_ _ | refine blk_drew ?_ | refine blk_alloc ?_ _)); refine blk_put (cs := #[.int .i64 (wrap64 ((wrap64 ((wrap64 ((wrap64 ((wrap64 (bt a0 0)) * 16777216)) + (wrap64 ((wrap64 (bt a0 1)) * 65536)))) + (wrap64 ((wrap64 (bt a0 2)) * 256)))) + (wrap64 (bt a0 3)))), .int .i64 (wrap64 (bt a0 4)), .int .i64 0, .string (⟨#[]⟩ : ByteArray)]) ?_ 2 _ rfl; (with_reducible repeat (first | refine blk_drewN ?_ _ | refine blk_drew ?_ | refine blk_alloc ?_ _)); refine blk_put (cs := #[.int .i64 (wrap64 ((wrap64 ((wrap64 ((wrap64 ((wrap64 (bt a0 0)) * 16777216)) + (wrap64 ((wrap64 (bt a0 1)) * 65536)))) + (wrap64 ((wrap64 (bt a0 2)) * 256)))) + (wrap64 (bt a0 3)))), .int .i64 0, .int .i64 0, .string (⟨#[]⟩ : ByteArray)]) ?_ 1 _ rfl; (with_reducible repeat (first | refine blk_drewN ?_ _ | refine blk_drew ?_ | refine blk_alloc ?_ _)); refine blk_put (cs := #[.int .i64 0, .int .i64 0, .int .i64 0, .string (⟨#[]⟩ : ByteArray)]) ?_ 0 _ rfl; (with_reducible repeat (first | refine blk_drewN ?_ _ | refine blk_drew ?_ | refine blk_alloc ?_ _)); exact BK123.out⟩, ⟨by repeat (first | (with_reducible first | exact HB.out | apply below_alloc | apply pw_below_drewN | apply below_drew1 | refine below_set ?_ GE122.out | refine below_set ?_ GE123.out) | exact HB.out)⟩⟩
                                    · rw [if_neg c47] at H
                                      have c47b0 : ((wrap64 (bt a0 6)) == 0) = false := beq_eq_false_iff_ne.mpr c47
                                      have c47b1 : ((wrap64 (bt a0 6)) != 0) = true := bne_iff_ne.mpr c47
                                      have H' := Aside0.mk H
                                      clear H
                                      have hnb50 := NB123_122.out
                                      have hnc50 := NB122_123.out
                                      have hcz51_0 : w20.cell? ⟨gb123, 0, none⟩ = some (.int .i64 0) := (blk_cell BK123.out 0).trans rfl
                                      have hcz51_1 : w20.cell? ⟨gb123, 1, none⟩ = some (.int .i64 0) := (blk_cell BK123.out 1).trans rfl
                                      have hcz51_2 : w20.cell? ⟨gb123, 2, none⟩ = some (.int .i64 0) := (blk_cell BK123.out 2).trans rfl
                                      have hcz51_3 : w20.cell? ⟨gb123, 3, none⟩ = some (.string (⟨#[]⟩ : ByteArray)) := (blk_cell BK123.out 3).trans rfl
                                      have hfz51_0 := blk_frozen BK123.out 0
                                      have hfz51_1 := blk_frozen BK123.out 1
                                      have hfz51_2 := blk_frozen BK123.out 2
                                      have hfz51_3 := blk_frozen BK123.out 3
                                      go_wp2
                                      go_meet
                                      case rel => exact ⟨_, (false), (by first | rfl | (simp; done) | (simp [*]; done)), (by first | rfl | (simp; done) | (simp [*]; done)), H', ⟨by first | omega | exact Nat.le_refl _⟩, ⟨by (with_reducible repeat (first | refine blk_drewN ?_ _ | refine blk_drew ?_ | refine blk_alloc ?_ _)); refine blk_far ?_ NB122_123.out _; (with_reducible repeat (first | refine blk_drewN ?_ _ | refine blk_drew ?_ | refine blk_alloc ?_ _)); refine blk_far ?_ NB122_123.out _; (with_reducible repeat (first | refine blk_drewN ?_ _ | refine blk_drew ?_ | refine blk_alloc ?_ _)); refine blk_far ?_ NB122_123.out _; (with_reducible repeat (first | refine blk_drewN ?_ _ | refine blk_drew ?_ | refine blk_alloc ?_ _)); refine blk_far ?_ NB122_123.out _; (with_reducible repeat (first | refine blk_drewN ?_ _ | refine blk_drew ?_ | refine blk_alloc ?_ _)); exact BK122.out⟩, ⟨by (with_reducible repeat (first | refine blk_drewN ?_ _ | refine blk_drew ?_ | refine blk_alloc ?_ _)); refine blk_put (cs := #[.int .i64 (wrap64 ((wrap64 ((wrap64 ((wrap64 ((wrap64 (bt a0 0)) * 16777216)) + (wrap64 ((wrap64 (bt a0 1)) * 65536)))) + (wrap64 ((wrap64 (bt a0 2)) * 256)))) + (wrap64 (bt a0 3)))), .int .i64 (wrap64 (bt a0 4)), .int .i64 (wrap64 (bt a0 5)), .string (⟨#[]⟩ : ByteArray)]) ?_ 3 _ rfl; (with_reducible repeat (first | refine blk_drewN ?_ _ | refine blk_drew ?_ | refine blk_alloc ?_ _)); refine blk_put (cs := #[.int .i64 (wrap64 ((wrap64 ((wrap64 ((wrap64 ((wrap64 (bt a0 0)) * 16777216)) + (wrap64 ((wrap64 (bt a0 1)) * 65536)))) + (wrap64 ((wrap64 (bt a0 2)) * 256)))) + (wrap64 (bt a0 3)))), .int .i64 (wrap64 (bt a0 4)), .int .i64 0, .string (⟨#[]⟩ : ByteArray)]) ?_ 2 _ rfl; (with_reducible repeat (first | refine blk_drewN ?_ _ | refine blk_drew ?_ | refine blk_alloc ?_ _)); refine blk_put (cs := #[.int .i64 (wrap64 ((wrap64 ((wrap64 ((wrap64 ((wrap64 (bt a0 0)) * 16777216)) + (wrap64 ((wrap64 (bt a0 1)) * 65536)))) + (wrap64 ((wrap64 (bt a0 2)) * 256)))) + (wrap64 (bt a0 3)))), .int .i64 0, .int .i64 0, .string (⟨#[]⟩ : ByteArray)]) ?_ 1 _ rfl; (with_reducible repeat (first | refine blk_drewN ?_ _ | refine blk_drew ?_ | refine blk_alloc ?_ _)); refine blk_put (cs := #[.int .i64 0, .int .i64 0, .int .i64 0, .string (⟨#[]⟩ : ByteArray)]) ?_ 0 _ rfl; (with_reducible repeat (first | refine blk_drewN ?_ _ | refine blk_drew ?_ | refine blk_alloc ?_ _)); exact BK123.out⟩, ⟨by repeat (first | (with_reducible first | exact HB.out | apply below_alloc | apply pw_below_drewN | apply below_drew1 | refine below_set ?_ GE122.out | refine below_set ?_ GE123.out) | exact HB.out)⟩⟩
                                  · rw [if_neg c46] at H
                                    exfalso
                                    first | exact c46 (beq_iff_eq.mp c45b0) | exact (beq_eq_false_iff_ne.mp c45b0) c46 | exact c46 (of_decide_eq_true c45b0) | exact (of_decide_eq_false c45b0) c46
                                · rw [if_neg c45] at H
                                  have c45b0 : ((wrap64 (bt a0 4)) == (wrap64 ((wrap64 (bt a0 5)) - 1))) = false := beq_eq_false_iff_ne.mpr c45
                                  have c45b1 : ((wrap64 (bt a0 4)) != (wrap64 ((wrap64 (bt a0 5)) - 1))) = true := bne_iff_ne.mpr c45
                                  by_cases c52 : (wrap64 (bt a0 6)) = 55
                                  · rw [if_pos c52] at H
                                    have c52b0 : ((wrap64 (bt a0 6)) == 55) = true := beq_iff_eq.mpr c52
                                    have c52b1 : ((wrap64 (bt a0 6)) != 55) = false := bne_eq_false_iff_eq.mpr c52
                                    clear c52
                                    by_cases c53 : (wrap64 (bt a0 4)) = (wrap64 ((wrap64 (bt a0 5)) - 1))
                                    · rw [if_pos c53] at H
                                      exfalso
                                      first | exact c53 (beq_iff_eq.mp c45b0) | exact (beq_eq_false_iff_ne.mp c45b0) c53 | exact c53 (of_decide_eq_true c45b0) | exact (of_decide_eq_false c45b0) c53
                                    · rw [if_neg c53] at H
                                      have c53b0 : ((wrap64 (bt a0 4)) == (wrap64 ((wrap64 (bt a0 5)) - 1))) = false := beq_eq_false_iff_ne.mpr c53
                                      have c53b1 : ((wrap64 (bt a0 4)) != (wrap64 ((wrap64 (bt a0 5)) - 1))) = true := bne_iff_ne.mpr c53
                                      have H' := Aside0.mk H
                                      clear H
                                      have hnb54 := NB123_122.out
                                      have hnc54 := NB122_123.out
                                      have hcz55_0 : w20.cell? ⟨gb123, 0, none⟩ = some (.int .i64 0) := (blk_cell BK123.out 0).trans rfl
                                      have hcz55_1 : w20.cell? ⟨gb123, 1, none⟩ = some (.int .i64 0) := (blk_cell BK123.out 1).trans rfl
                                      have hcz55_2 : w20.cell? ⟨gb123, 2, none⟩ = some (.int .i64 0) := (blk_cell BK123.out 2).trans rfl
                                      have hcz55_3 : w20.cell? ⟨gb123, 3, none⟩ = some (.string (⟨#[]⟩ : ByteArray)) := (blk_cell BK123.out 3).trans rfl
                                      have hfz55_0 := blk_frozen BK123.out 0
                                      have hfz55_1 := blk_frozen BK123.out 1
                                      have hfz55_2 := blk_frozen BK123.out 2
                                      have hfz55_3 := blk_frozen BK123.out 3
                                      go_wp2
                                      go_meet
                                      case rel => exact ⟨_, (false), (by first | rfl | (simp; done) | (simp [*]; done)), (by first | rfl | (simp; done) | (simp [*]; done)), H', ⟨by first | omega | exact Nat.le_refl _⟩, ⟨by (with_reducible repeat (first | refine blk_drewN ?_ _ | refine blk_drew ?_ | refine blk_alloc ?_ _)); refine blk_far ?_ NB122_123.out _; (with_reducible repeat (first | refine blk_drewN ?_ _ | refine blk_drew ?_ | refine blk_alloc ?_ _)); refine blk_far ?_ NB122_123.out _; (with_reducible repeat (first | refine blk_drewN ?_ _ | refine blk_drew ?_ | refine blk_alloc ?_ _)); refine blk_far ?_ NB122_123.out _; (with_reducible repeat (first | refine blk_drewN ?_ _ | refine blk_drew ?_ | refine blk_alloc ?_ _)); refine blk_far ?_ NB122_123.out _; (with_reducible repeat (first | refine blk_drewN ?_ _ | refine blk_drew ?_ | refine blk_alloc ?_ _)); exact BK122.out⟩, ⟨by (with_reducible repeat (first | refine blk_drewN ?_ _ | refine blk_drew ?_ | refine blk_alloc ?_ _)); refine blk_put (cs := #[.int .i64 (wrap64 ((wrap64 ((wrap64 ((wrap64 ((wrap64 (bt a0 0)) * 16777216)) + (wrap64 ((wrap64 (bt a0 1)) * 65536)))) + (wrap64 ((wrap64 (bt a0 2)) * 256)))) + (wrap64 (bt a0 3)))), .int .i64 (wrap64 (bt a0 4)), .int .i64 (wrap64 (bt a0 5)), .string (⟨#[]⟩ : ByteArray)]) ?_ 3 _ rfl; (with_reducible repeat (first | refine blk_drewN ?_ _ | refine blk_drew ?_ | refine blk_alloc ?_ _)); refine blk_put (cs := #[.int .i64 (wrap64 ((wrap64 ((wrap64 ((wrap64 ((wrap64 (bt a0 0)) * 16777216)) + (wrap64 ((wrap64 (bt a0 1)) * 65536)))) + (wrap64 ((wrap64 (bt a0 2)) * 256)))) + (wrap64 (bt a0 3)))), .int .i64 (wrap64 (bt a0 4)), .int .i64 0, .string (⟨#[]⟩ : ByteArray)]) ?_ 2 _ rfl; (with_reducible repeat (first | refine blk_drewN ?_ _ | refine blk_drew ?_ | refine blk_alloc ?_ _)); refine blk_put (cs := #[.int .i64 (wrap64 ((wrap64 ((wrap64 ((wrap64 ((wrap64 (bt a0 0)) * 16777216)) + (wrap64 ((wrap64 (bt a0 1)) * 65536)))) + (wrap64 ((wrap64 (bt a0 2)) * 256)))) + (wrap64 (bt a0 3)))), .int .i64 0, .int .i64 0, .string (⟨#[]⟩ : ByteArray)]) ?_ 1 _ rfl; (with_reducible repeat (first | refine blk_drewN ?_ _ | refine blk_drew ?_ | refine blk_alloc ?_ _)); refine blk_put (cs := #[.int .i64 0, .int .i64 0, .int .i64 0, .string (⟨#[]⟩ : ByteArray)]) ?_ 0 _ rfl; (with_reducible repeat (first | refine blk_drewN ?_ _ | refine blk_drew ?_ | refine blk_alloc ?_ _)); exact BK123.out⟩, ⟨by repeat (first | (with_reducible first | exact HB.out | apply below_alloc | apply pw_below_drewN | apply below_drew1 | refine below_set ?_ GE122.out | refine below_set ?_ GE123.out) | exact HB.out)⟩⟩
                                  · rw [if_neg c52] at H
                                    have c52b0 : ((wrap64 (bt a0 6)) == 55) = false := beq_eq_false_iff_ne.mpr c52
                                    have c52b1 : ((wrap64 (bt a0 6)) != 55) = true := bne_iff_ne.mpr c52
                                    have H' := Aside0.mk H
                                    clear H
                                    have hnb56 := NB123_122.out
                                    have hnc56 := NB122_123.out
                                    have hcz57_0 : w20.cell? ⟨gb123, 0, none⟩ = some (.int .i64 0) := (blk_cell BK123.out 0).trans rfl
                                    have hcz57_1 : w20.cell? ⟨gb123, 1, none⟩ = some (.int .i64 0) := (blk_cell BK123.out 1).trans rfl
                                    have hcz57_2 : w20.cell? ⟨gb123, 2, none⟩ = some (.int .i64 0) := (blk_cell BK123.out 2).trans rfl
                                    have hcz57_3 : w20.cell? ⟨gb123, 3, none⟩ = some (.string (⟨#[]⟩ : ByteArray)) := (blk_cell BK123.out 3).trans rfl
                                    have hfz57_0 := blk_frozen BK123.out 0
                                    have hfz57_1 := blk_frozen BK123.out 1
                                    have hfz57_2 := blk_frozen BK123.out 2
                                    have hfz57_3 := blk_frozen BK123.out 3
                                    go_wp2
                                    go_meet
                                    case rel => exact ⟨_, (true), (by first | rfl | (simp; done) | (simp [*]; done)), (by first | rfl | (simp; done) | (simp [*]; done)), H', ⟨by first | omega | exact Nat.le_refl _⟩, ⟨by (with_reducible repeat (first | refine blk_drewN ?_ _ | refine blk_drew ?_ | refine blk_alloc ?_ _)); refine blk_far ?_ NB122_123.out _; (with_reducible repeat (first | refine blk_drewN ?_ _ | refine blk_drew ?_ | refine blk_alloc ?_ _)); refine blk_far ?_ NB122_123.out _; (with_reducible repeat (first | refine blk_drewN ?_ _ | refine blk_drew ?_ | refine blk_alloc ?_ _)); refine blk_far ?_ NB122_123.out _; (with_reducible repeat (first | refine blk_drewN ?_ _ | refine blk_drew ?_ | refine blk_alloc ?_ _)); refine blk_far ?_ NB122_123.out _; (with_reducible repeat (first | refine blk_drewN ?_ _ | refine blk_drew ?_ | refine blk_alloc ?_ _)); exact BK122.out⟩, ⟨by (with_reducible repeat (first | refine blk_drewN ?_ _ | refine blk_drew ?_ | refine blk_alloc ?_ _)); refine blk_put (cs := #[.int .i64 (wrap64 ((wrap64 ((wrap64 ((wrap64 ((wrap64 (bt a0 0)) * 16777216)) + (wrap64 ((wrap64 (bt a0 1)) * 65536)))) + (wrap64 ((wrap64 (bt a0 2)) * 256)))) + (wrap64 (bt a0 3)))), .int .i64 (wrap64 (bt a0 4)), .int .i64 (wrap64 (bt a0 5)), .string (⟨#[]⟩ : ByteArray)]) ?_ 3 _ rfl; (with_reducible repeat (first | refine blk_drewN ?_ _ | refine blk_drew ?_ | refine blk_alloc ?_ _)); refine blk_put (cs := #[.int .i64 (wrap64 ((wrap64 ((wrap64 ((wrap64 ((wrap64 (bt a0 0)) * 16777216)) + (wrap64 ((wrap64 (bt a0 1)) * 65536)))) + (wrap64 ((wrap64 (bt a0 2)) * 256)))) + (wrap64 (bt a0 3)))), .int .i64 (wrap64 (bt a0 4)), .int .i64 0, .string (⟨#[]⟩ : ByteArray)]) ?_ 2 _ rfl; (with_reducible repeat (first | refine blk_drewN ?_ _ | refine blk_drew ?_ | refine blk_alloc ?_ _)); refine blk_put (cs := #[.int .i64 (wrap64 ((wrap64 ((wrap64 ((wrap64 ((wrap64 (bt a0 0)) * 16777216)) + (wrap64 ((wrap64 (bt a0 1)) * 65536)))) + (wrap64 ((wrap64 (bt a0 2)) * 256)))) + (wrap64 (bt a0 3)))), .int .i64 0, .int .i64 0, .string (⟨#[]⟩ : ByteArray)]) ?_ 1 _ rfl; (with_reducible repeat (first | refine blk_drewN ?_ _ | refine blk_drew ?_ | refine blk_alloc ?_ _)); refine blk_put (cs := #[.int .i64 0, .int .i64 0, .int .i64 0, .string (⟨#[]⟩ : ByteArray)]) ?_ 0 _ rfl; (with_reducible repeat (first | refine blk_drewN ?_ _ | refine blk_drew ?_ | refine blk_alloc ?_ _)); exact BK123.out⟩, ⟨by repeat (first | (with_reducible first | exact HB.out | apply below_alloc | apply pw_below_drewN | apply below_drew1 | refine below_set ?_ GE122.out | refine below_set ?_ GE123.out) | exact HB.out)⟩⟩
                  case rest =>
                    clear HC17
                    try clear c1
                    try clear p1
                    try clear q1
                    try clear hx1
                    try clear qi1
                    try clear c2
                    try clear c2b0
                    try clear c2b1
                    try clear p2
                    try clear c3
                    try clear c3b0
                    try clear c3b1
                    try clear c4
                    try clear p4
                    try clear q4
                    try clear hx4
                    try clear qi4
                    try clear c5
                    try clear c5b0
                    try clear c5b1
                    try clear p6
                    try clear q6
                    try clear hx6
                    try clear qi6
                    try clear c7
                    try clear c7b0
                    try clear c7b1
                    try clear p8
                    try clear q8
                    try clear hx8
                    try clear qi8
                    try clear c9
                    try clear c9b0
                    try clear c9b1
                    try clear p10
                    try clear q10
                    try clear hx10
                    try clear qi10
                    try clear c11
                    try clear c11b0
                    try clear c11b1
                    try clear p12
                    try clear q12
                    try clear hx12
                    try clear qi12
                    try clear c13
                    try clear c13b0
                    try clear c13b1
                    try clear p14
                    try clear q14
                    try clear hx14
                    try clear qi14
                    try clear c15
                    try clear c15b0
                    try clear c15b1
                    try clear c16
                    try clear p16
                    try clear q16
                    try clear hx16
                    try clear qi16
                    try clear c25
                    try clear c27
                    try clear c27b0
                    try clear c28
                    try clear c30
                    try clear c30b0
                    try clear c31
                    try clear c33
                    try clear c33b0
                    try clear c34
                    try clear c36
                    try clear c36b0
                    try clear c37
                    try clear c39
                    try clear c39b0
                    try clear c40
                    try clear c42
                    try clear c42b0
                    try clear c43
                    try clear c45
                    try clear c45b0
                    try clear c45b1
                    try clear c46
                    try clear c46b0
                    try clear c46b1
                    try clear c47
                    try clear c47b0
                    try clear c47b1
                    try clear c48
                    try clear c50
                    try clear c52
                    try clear c52b0
                    try clear c52b1
                    try clear c53
                    try clear c53b0
                    try clear c53b1
                    try clear c54
                    try clear c56
                    try clear hcz26_0
                    try clear hcz26_1
                    try clear hcz26_2
                    try clear hcz26_3
                    try clear hcz29_0
                    try clear hcz29_1
                    try clear hcz29_2
                    try clear hcz29_3
                    try clear hcz32_0
                    try clear hcz32_1
                    try clear hcz32_2
                    try clear hcz32_3
                    try clear hcz35_0
                    try clear hcz35_1
                    try clear hcz35_2
                    try clear hcz35_3
                    try clear hcz38_0
                    try clear hcz38_1
                    try clear hcz38_2
                    try clear hcz38_3
                    try clear hcz41_0
                    try clear hcz41_1
                    try clear hcz41_2
                    try clear hcz41_3
                    try clear hcz44_0
                    try clear hcz44_1
                    try clear hcz44_2
                    try clear hcz44_3
                    try clear hcz49_0
                    try clear hcz49_1
                    try clear hcz49_2
                    try clear hcz49_3
                    try clear hcz51_0
                    try clear hcz51_1
                    try clear hcz51_2
                    try clear hcz51_3
                    try clear hcz55_0
                    try clear hcz55_1
                    try clear hcz55_2
                    try clear hcz55_3
                    try clear hcz57_0
                    try clear hcz57_1
                    try clear hcz57_2
                    try clear hcz57_3
                    try clear hfz26_0
                    try clear hfz26_1
                    try clear hfz26_2
                    try clear hfz26_3
                    try clear hfz29_0
                    try clear hfz29_1
                    try clear hfz29_2
                    try clear hfz29_3
                    try clear hfz32_0
                    try clear hfz32_1
                    try clear hfz32_2
                    try clear hfz32_3
                    try clear hfz35_0
                    try clear hfz35_1
                    try clear hfz35_2
                    try clear hfz35_3
                    try clear hfz38_0
                    try clear hfz38_1
                    try clear hfz38_2
                    try clear hfz38_3
                    try clear hfz41_0
                    try clear hfz41_1
                    try clear hfz41_2
                    try clear hfz41_3
                    try clear hfz44_0
                    try clear hfz44_1
                    try clear hfz44_2
                    try clear hfz44_3
                    try clear hfz49_0
                    try clear hfz49_1
                    try clear hfz49_2
                    try clear hfz49_3
                    try clear hfz51_0
                    try clear hfz51_1
                    try clear hfz51_2
                    try clear hfz51_3
                    try clear hfz55_0
                    try clear hfz55_1
                    try clear hfz55_2
                    try clear hfz55_3
                    try clear hfz57_0
                    try clear hfz57_1
                    try clear hfz57_2
                    try clear hfz57_3
                    try clear p10
                    try clear p12
                    try clear p14
                    try clear p16
                    try clear p4
                    try clear p6
                    try clear p8
                    try clear q10
                    try clear q12
                    try clear q14
                    try clear q16
                    try clear q4
                    try clear q6
                    try clear q8
                    obtain ⟨kq, x93_16, rfl, rfl, HA, HJ16, BK122, BK123, HB⟩ := hcut
                    cases kq with
                    | zero => exact absurd HA.out (by simp [stevedoreref04_Tell.j0])
                    | succ kj16 =>
                      have H := HA.out
                      clear HA
                      simp only [stevedoreref04_Tell.j0] at H
                      by_cases c58 : x93_16 = true
                      · subst c58
                        have H1 : (some (0, 0, 0, (⟨#[]⟩ : ByteArray), 43)) = some (r1, r2, r3, r4, r5) := by rw [if_pos rfl] at H; exact H
                        clear H
                        have H := H1
                        clear H1
                        simp only [Option.some.injEq, Prod.mk.injEq] at H
                        obtain ⟨rfl, rfl, rfl, rfl, rfl⟩ := H
                        have hnb59 := NB122_123.out
                        have hnc59 := NB123_122.out
                        have hcz60_0 : wc.cell? ⟨gb122, 0, none⟩ = some (.int .i64 0) := (blk_cell BK122.out 0).trans rfl
                        have hcz60_1 : wc.cell? ⟨gb122, 1, none⟩ = some (.int .i64 0) := (blk_cell BK122.out 1).trans rfl
                        have hcz60_2 : wc.cell? ⟨gb122, 2, none⟩ = some (.int .i64 0) := (blk_cell BK122.out 2).trans rfl
                        have hcz60_3 : wc.cell? ⟨gb122, 3, none⟩ = some (.string (⟨#[]⟩ : ByteArray)) := (blk_cell BK122.out 3).trans rfl
                        have hfz60_0 := blk_frozen BK122.out 0
                        have hfz60_1 := blk_frozen BK122.out 1
                        have hfz60_2 := blk_frozen BK122.out 2
                        have hfz60_3 := blk_frozen BK122.out 3
                        go_wp2
                        refine bodyPost_ret (results_ct rfl _ _ gb122 30 #[.int .i64 0, .int .i64 0, .int .i64 0, .string (⟨#[]⟩ : ByteArray)] (0, 0) _ rfl (by (with_reducible repeat (first | refine blk_drewN ?_ _ | refine blk_drew ?_ | refine blk_alloc ?_ _)); refine blk_put (cs := #[.int .i64 0, .int .i64 0, .int .i64 0, .string (⟨#[]⟩ : ByteArray)]) ?_ 3 _ rfl; (with_reducible repeat (first | refine blk_drewN ?_ _ | refine blk_drew ?_ | refine blk_alloc ?_ _)); refine blk_put (cs := #[.int .i64 0, .int .i64 0, .int .i64 0, .string (⟨#[]⟩ : ByteArray)]) ?_ 2 _ rfl; (with_reducible repeat (first | refine blk_drewN ?_ _ | refine blk_drew ?_ | refine blk_alloc ?_ _)); refine blk_put (cs := #[.int .i64 0, .int .i64 0, .int .i64 0, .string (⟨#[]⟩ : ByteArray)]) ?_ 1 _ rfl; (with_reducible repeat (first | refine blk_drewN ?_ _ | refine blk_drew ?_ | refine blk_alloc ?_ _)); refine blk_put (cs := #[.int .i64 0, .int .i64 0, .int .i64 0, .string (⟨#[]⟩ : ByteArray)]) ?_ 0 _ rfl; (with_reducible repeat (first | refine blk_drewN ?_ _ | refine blk_drew ?_ | refine blk_alloc ?_ _)); exact BK122.out) Try.underlying30 rfl (by kernel_rfl)) rfl ?_
                        exact ⟨by first | rfl | (simp [errW_none, errW_some] <;> rfl) | (simp [*, errW_none, errW_some] <;> rfl), by repeat (first | (with_reducible first | exact HB.out | apply below_alloc | apply pw_below_drewN | apply below_drew1 | refine below_set ?_ GE122.out | refine below_set ?_ GE123.out) | exact HB.out)⟩
                      · replace c58 := Bool.eq_false_iff.mpr c58
                        subst c58
                        have H1 : (if 7 ≤ (wrap64 (7 + (wrap64 (bt a0 6)))) then (if (wrap64 (7 + (wrap64 (bt a0 6)))) ≤ (a0.size : Int) then ((stevedoreref04_Sector.f kj16 (wrap64 ((wrap64 ((wrap64 ((wrap64 ((wrap64 (bt a0 0)) * 16777216)) + (wrap64 ((wrap64 (bt a0 1)) * 65536)))) + (wrap64 ((wrap64 (bt a0 2)) * 256)))) + (wrap64 (bt a0 3)))) (wrap64 (bt a0 4)) (wrap64 (bt a0 5)) (a0.extract 7 ((wrap64 (7 + (wrap64 (bt a0 6)))) : Int).toNat)).bind fun t124 => (if t124.toList = a0.toList then (some ((wrap64 ((wrap64 ((wrap64 ((wrap64 ((wrap64 (bt a0 0)) * 16777216)) + (wrap64 ((wrap64 (bt a0 1)) * 65536)))) + (wrap64 ((wrap64 (bt a0 2)) * 256)))) + (wrap64 (bt a0 3)))), (wrap64 (bt a0 4)), (wrap64 (bt a0 5)), a0.extract 7 ((wrap64 (7 + (wrap64 (bt a0 6)))) : Int).toNat, 0)) else (some (0, 0, 0, (⟨#[]⟩ : ByteArray), 43)))) else (none)) else (none)) = some (r1, r2, r3, r4, r5) := by rw [if_neg (show ¬ (false = true) by decide)] at H; exact H
                        clear H
                        have H := H1
                        clear H1
                        by_cases c61 : 7 ≤ (wrap64 (7 + (wrap64 (bt a0 6))))
                        · rw [if_pos c61] at H
                          have c61b0 := eq_true c61
                          have c61b1 : decide (7 ≤ (wrap64 (7 + (wrap64 (bt a0 6))))) = true := decide_eq_true c61
                          by_cases c62 : (wrap64 (7 + (wrap64 (bt a0 6)))) ≤ (a0.size : Int)
                          · rw [if_pos c62] at H
                            have c62b0 := eq_true c62
                            have c62b1 : decide ((wrap64 (7 + (wrap64 (bt a0 6)))) ≤ (a0.size : Int)) = true := decide_eq_true c62
                            replace H := Option.bind_eq_some_iff.mp H
                            obtain ⟨t124, A630, H⟩ := H
                            replace H : (if t124.toList = a0.toList then (some ((wrap64 ((wrap64 ((wrap64 ((wrap64 ((wrap64 (bt a0 0)) * 16777216)) + (wrap64 ((wrap64 (bt a0 1)) * 65536)))) + (wrap64 ((wrap64 (bt a0 2)) * 256)))) + (wrap64 (bt a0 3)))), (wrap64 (bt a0 4)), (wrap64 (bt a0 5)), a0.extract 7 ((wrap64 (7 + (wrap64 (bt a0 6)))) : Int).toNat, 0)) else (some (0, 0, 0, (⟨#[]⟩ : ByteArray), 43))) = some (r1, r2, r3, r4, r5) := H
                            have A63 := Aside0.mk A630
                            clear A630
                            by_cases c64 : t124.toList = a0.toList
                            · rw [if_pos c64] at H
                              have c64b0 : (t124.toList == a0.toList) = true := beq_iff_eq.mpr c64
                              have c64b1 : (t124.toList != a0.toList) = false := bne_eq_false_iff_eq.mpr c64
                              clear c64
                              simp only [Option.some.injEq, Prod.mk.injEq] at H
                              obtain ⟨rfl, rfl, rfl, rfl, rfl⟩ := H
                              have hnb65 := NB123_122.out
                              have hnc65 := NB122_123.out
                              have hcz66_0 : wc.cell? ⟨gb123, 0, none⟩ = some (.int .i64 (wrap64 ((wrap64 ((wrap64 ((wrap64 ((wrap64 (bt a0 0)) * 16777216)) + (wrap64 ((wrap64 (bt a0 1)) * 65536)))) + (wrap64 ((wrap64 (bt a0 2)) * 256)))) + (wrap64 (bt a0 3))))) := (blk_cell BK123.out 0).trans rfl
                              have hcz66_1 : wc.cell? ⟨gb123, 1, none⟩ = some (.int .i64 (wrap64 (bt a0 4))) := (blk_cell BK123.out 1).trans rfl
                              have hcz66_2 : wc.cell? ⟨gb123, 2, none⟩ = some (.int .i64 (wrap64 (bt a0 5))) := (blk_cell BK123.out 2).trans rfl
                              have hcz66_3 : wc.cell? ⟨gb123, 3, none⟩ = some (.string (⟨#[]⟩ : ByteArray)) := (blk_cell BK123.out 3).trans rfl
                              have hfz66_0 := blk_frozen BK123.out 0
                              have hfz66_1 := blk_frozen BK123.out 1
                              have hfz66_2 := blk_frozen BK123.out 2
                              have hfz66_3 := blk_frozen BK123.out 3
                              go_wp2_with (first | ((with_reducible refine gate_callee (f := 43) rfl ?_); refine goesL_ (some 108) rfl rfl Try.func43 (by kernel_rfl) rfl #[.int .i64 (wrap64 ((wrap64 ((wrap64 ((wrap64 ((wrap64 (bt a0 0)) * 16777216)) + (wrap64 ((wrap64 (bt a0 1)) * 65536)))) + (wrap64 ((wrap64 (bt a0 2)) * 256)))) + (wrap64 (bt a0 3)))), .int .i64 (wrap64 (bt a0 4)), .int .i64 (wrap64 (bt a0 5)), .string (a0.extract 7 ((wrap64 (7 + (wrap64 (bt a0 6)))) : Int).toNat)] rfl (by (try simp only [List.map_toArray, List.map_cons, List.map_nil]); first | done | rfl | (simp only [List.length_drop, List.length_take]; rfl)) ?_; (with_reducible refine (stevedoreref04_Sector.calls kj16 (wrap64 ((wrap64 ((wrap64 ((wrap64 ((wrap64 (bt a0 0)) * 16777216)) + (wrap64 ((wrap64 (bt a0 1)) * 65536)))) + (wrap64 ((wrap64 (bt a0 2)) * 256)))) + (wrap64 (bt a0 3)))) (wrap64 (bt a0 4)) (wrap64 (bt a0 5)) (a0.extract 7 ((wrap64 (7 + (wrap64 (bt a0 6)))) : Int).toNat) t124 _ A63.out).mono ?_); rintro e w67 ⟨rfl, hb⟩; refine ⟨_, rfl, ?_⟩; have n0_ := Aside0.mk (blk_below (g := gb122) (o := .cells #[.int .i64 0, .int .i64 0, .int .i64 0, .string (⟨#[]⟩ : ByteArray)] 30 (0, 0)) (by (with_reducible repeat (first | refine blk_drewN ?_ _ | refine blk_drew ?_ | refine blk_alloc ?_ _)); refine blk_far ?_ NB122_123.out _; (with_reducible repeat (first | refine blk_drewN ?_ _ | refine blk_drew ?_ | refine blk_alloc ?_ _)); exact BK122.out) hb); have n1_ := Aside0.mk (blk_below (g := gb123) (o := .cells #[.int .i64 (wrap64 ((wrap64 ((wrap64 ((wrap64 ((wrap64 (bt a0 0)) * 16777216)) + (wrap64 ((wrap64 (bt a0 1)) * 65536)))) + (wrap64 ((wrap64 (bt a0 2)) * 256)))) + (wrap64 (bt a0 3)))), .int .i64 (wrap64 (bt a0 4)), .int .i64 (wrap64 (bt a0 5)), .string (a0.extract 7 ((wrap64 (7 + (wrap64 (bt a0 6)))) : Int).toNat)] 30 (0, 0)) (by (with_reducible repeat (first | refine blk_drewN ?_ _ | refine blk_drew ?_ | refine blk_alloc ?_ _)); refine blk_put (cs := #[.int .i64 (wrap64 ((wrap64 ((wrap64 ((wrap64 ((wrap64 (bt a0 0)) * 16777216)) + (wrap64 ((wrap64 (bt a0 1)) * 65536)))) + (wrap64 ((wrap64 (bt a0 2)) * 256)))) + (wrap64 (bt a0 3)))), .int .i64 (wrap64 (bt a0 4)), .int .i64 (wrap64 (bt a0 5)), .string (⟨#[]⟩ : ByteArray)]) ?_ 3 _ rfl; (with_reducible repeat (first | refine blk_drewN ?_ _ | refine blk_drew ?_ | refine blk_alloc ?_ _)); exact BK123.out) hb); have n2_ := Aside0.mk (below_step (by repeat (first | (with_reducible first | exact HB.out | apply below_alloc | apply pw_below_drewN | apply below_drew1 | refine below_set ?_ GE122.out | refine below_set ?_ GE123.out) | exact HB.out)) hb); clear BK122; clear BK123; clear HB; have BK122 := n0_; have BK123 := n1_; have HB := n2_; clear n0_ n1_ n2_; (try clear hb); (try clear hb2); (try clear hk); (try clear hi); have hcz68_0 : w67.cell? ⟨gb123, 0, none⟩ = some (.int .i64 (wrap64 ((wrap64 ((wrap64 ((wrap64 ((wrap64 (bt a0 0)) * 16777216)) + (wrap64 ((wrap64 (bt a0 1)) * 65536)))) + (wrap64 ((wrap64 (bt a0 2)) * 256)))) + (wrap64 (bt a0 3))))) := (blk_cell BK123.out 0).trans rfl; have hcz68_1 : w67.cell? ⟨gb123, 1, none⟩ = some (.int .i64 (wrap64 (bt a0 4))) := (blk_cell BK123.out 1).trans rfl; have hcz68_2 : w67.cell? ⟨gb123, 2, none⟩ = some (.int .i64 (wrap64 (bt a0 5))) := (blk_cell BK123.out 2).trans rfl; have hcz68_3 : w67.cell? ⟨gb123, 3, none⟩ = some (.string (a0.extract 7 ((wrap64 (7 + (wrap64 (bt a0 6)))) : Int).toNat)) := (blk_cell BK123.out 3).trans rfl; have hfz68_0 := blk_frozen BK123.out 0; have hfz68_1 := blk_frozen BK123.out 1; have hfz68_2 := blk_frozen BK123.out 2; have hfz68_3 := blk_frozen BK123.out 3; have hcz69_0 : w67.cell? ⟨gb122, 0, none⟩ = some (.int .i64 0) := (blk_cell BK122.out 0).trans rfl; have hcz69_1 : w67.cell? ⟨gb122, 1, none⟩ = some (.int .i64 0) := (blk_cell BK122.out 1).trans rfl; have hcz69_2 : w67.cell? ⟨gb122, 2, none⟩ = some (.int .i64 0) := (blk_cell BK122.out 2).trans rfl; have hcz69_3 : w67.cell? ⟨gb122, 3, none⟩ = some (.string (⟨#[]⟩ : ByteArray)) := (blk_cell BK122.out 3).trans rfl; have hfz69_0 := blk_frozen BK122.out 0; have hfz69_1 := blk_frozen BK122.out 1; have hfz69_2 := blk_frozen BK122.out 2; have hfz69_3 := blk_frozen BK122.out 3))
                              refine bodyPost_ret (results_ct rfl _ _ gb122 30 #[.int .i64 (wrap64 ((wrap64 ((wrap64 ((wrap64 ((wrap64 (bt a0 0)) * 16777216)) + (wrap64 ((wrap64 (bt a0 1)) * 65536)))) + (wrap64 ((wrap64 (bt a0 2)) * 256)))) + (wrap64 (bt a0 3)))), .int .i64 (wrap64 (bt a0 4)), .int .i64 (wrap64 (bt a0 5)), .string (a0.extract 7 ((wrap64 (7 + (wrap64 (bt a0 6)))) : Int).toNat)] (0, 0) _ rfl (by (with_reducible repeat (first | refine blk_drewN ?_ _ | refine blk_drew ?_ | refine blk_alloc ?_ _)); refine blk_put (cs := #[.int .i64 (wrap64 ((wrap64 ((wrap64 ((wrap64 ((wrap64 (bt a0 0)) * 16777216)) + (wrap64 ((wrap64 (bt a0 1)) * 65536)))) + (wrap64 ((wrap64 (bt a0 2)) * 256)))) + (wrap64 (bt a0 3)))), .int .i64 (wrap64 (bt a0 4)), .int .i64 (wrap64 (bt a0 5)), .string (⟨#[]⟩ : ByteArray)]) ?_ 3 _ rfl; (with_reducible repeat (first | refine blk_drewN ?_ _ | refine blk_drew ?_ | refine blk_alloc ?_ _)); refine blk_put (cs := #[.int .i64 (wrap64 ((wrap64 ((wrap64 ((wrap64 ((wrap64 (bt a0 0)) * 16777216)) + (wrap64 ((wrap64 (bt a0 1)) * 65536)))) + (wrap64 ((wrap64 (bt a0 2)) * 256)))) + (wrap64 (bt a0 3)))), .int .i64 (wrap64 (bt a0 4)), .int .i64 0, .string (⟨#[]⟩ : ByteArray)]) ?_ 2 _ rfl; (with_reducible repeat (first | refine blk_drewN ?_ _ | refine blk_drew ?_ | refine blk_alloc ?_ _)); refine blk_put (cs := #[.int .i64 (wrap64 ((wrap64 ((wrap64 ((wrap64 ((wrap64 (bt a0 0)) * 16777216)) + (wrap64 ((wrap64 (bt a0 1)) * 65536)))) + (wrap64 ((wrap64 (bt a0 2)) * 256)))) + (wrap64 (bt a0 3)))), .int .i64 0, .int .i64 0, .string (⟨#[]⟩ : ByteArray)]) ?_ 1 _ rfl; (with_reducible repeat (first | refine blk_drewN ?_ _ | refine blk_drew ?_ | refine blk_alloc ?_ _)); refine blk_put (cs := #[.int .i64 0, .int .i64 0, .int .i64 0, .string (⟨#[]⟩ : ByteArray)]) ?_ 0 _ rfl; (with_reducible repeat (first | refine blk_drewN ?_ _ | refine blk_drew ?_ | refine blk_alloc ?_ _)); exact BK122.out) Try.underlying30 rfl (by kernel_rfl)) rfl ?_
                              exact ⟨by first | rfl | (simp [errW_none, errW_some] <;> rfl) | (simp [*, errW_none, errW_some] <;> rfl), by repeat (first | (with_reducible first | exact HB.out | apply below_alloc | apply pw_below_drewN | apply below_drew1 | refine below_set ?_ GE122.out | refine below_set ?_ GE123.out) | exact HB.out)⟩
                            · rw [if_neg c64] at H
                              have c64b0 : (t124.toList == a0.toList) = false := beq_eq_false_iff_ne.mpr c64
                              have c64b1 : (t124.toList != a0.toList) = true := bne_iff_ne.mpr c64
                              simp only [Option.some.injEq, Prod.mk.injEq] at H
                              obtain ⟨rfl, rfl, rfl, rfl, rfl⟩ := H
                              have hnb70 := NB123_122.out
                              have hnc70 := NB122_123.out
                              have hcz71_0 : wc.cell? ⟨gb123, 0, none⟩ = some (.int .i64 (wrap64 ((wrap64 ((wrap64 ((wrap64 ((wrap64 (bt a0 0)) * 16777216)) + (wrap64 ((wrap64 (bt a0 1)) * 65536)))) + (wrap64 ((wrap64 (bt a0 2)) * 256)))) + (wrap64 (bt a0 3))))) := (blk_cell BK123.out 0).trans rfl
                              have hcz71_1 : wc.cell? ⟨gb123, 1, none⟩ = some (.int .i64 (wrap64 (bt a0 4))) := (blk_cell BK123.out 1).trans rfl
                              have hcz71_2 : wc.cell? ⟨gb123, 2, none⟩ = some (.int .i64 (wrap64 (bt a0 5))) := (blk_cell BK123.out 2).trans rfl
                              have hcz71_3 : wc.cell? ⟨gb123, 3, none⟩ = some (.string (⟨#[]⟩ : ByteArray)) := (blk_cell BK123.out 3).trans rfl
                              have hfz71_0 := blk_frozen BK123.out 0
                              have hfz71_1 := blk_frozen BK123.out 1
                              have hfz71_2 := blk_frozen BK123.out 2
                              have hfz71_3 := blk_frozen BK123.out 3
                              go_wp2_with (first | ((with_reducible refine gate_callee (f := 43) rfl ?_); refine goesL_ (some 108) rfl rfl Try.func43 (by kernel_rfl) rfl #[.int .i64 (wrap64 ((wrap64 ((wrap64 ((wrap64 ((wrap64 (bt a0 0)) * 16777216)) + (wrap64 ((wrap64 (bt a0 1)) * 65536)))) + (wrap64 ((wrap64 (bt a0 2)) * 256)))) + (wrap64 (bt a0 3)))), .int .i64 (wrap64 (bt a0 4)), .int .i64 (wrap64 (bt a0 5)), .string (a0.extract 7 ((wrap64 (7 + (wrap64 (bt a0 6)))) : Int).toNat)] rfl (by (try simp only [List.map_toArray, List.map_cons, List.map_nil]); first | done | rfl | (simp only [List.length_drop, List.length_take]; rfl)) ?_; (with_reducible refine (stevedoreref04_Sector.calls kj16 (wrap64 ((wrap64 ((wrap64 ((wrap64 ((wrap64 (bt a0 0)) * 16777216)) + (wrap64 ((wrap64 (bt a0 1)) * 65536)))) + (wrap64 ((wrap64 (bt a0 2)) * 256)))) + (wrap64 (bt a0 3)))) (wrap64 (bt a0 4)) (wrap64 (bt a0 5)) (a0.extract 7 ((wrap64 (7 + (wrap64 (bt a0 6)))) : Int).toNat) t124 _ A63.out).mono ?_); rintro e w72 ⟨rfl, hb⟩; refine ⟨_, rfl, ?_⟩; have n0_ := Aside0.mk (blk_below (g := gb122) (o := .cells #[.int .i64 0, .int .i64 0, .int .i64 0, .string (⟨#[]⟩ : ByteArray)] 30 (0, 0)) (by (with_reducible repeat (first | refine blk_drewN ?_ _ | refine blk_drew ?_ | refine blk_alloc ?_ _)); refine blk_far ?_ NB122_123.out _; (with_reducible repeat (first | refine blk_drewN ?_ _ | refine blk_drew ?_ | refine blk_alloc ?_ _)); exact BK122.out) hb); have n1_ := Aside0.mk (blk_below (g := gb123) (o := .cells #[.int .i64 (wrap64 ((wrap64 ((wrap64 ((wrap64 ((wrap64 (bt a0 0)) * 16777216)) + (wrap64 ((wrap64 (bt a0 1)) * 65536)))) + (wrap64 ((wrap64 (bt a0 2)) * 256)))) + (wrap64 (bt a0 3)))), .int .i64 (wrap64 (bt a0 4)), .int .i64 (wrap64 (bt a0 5)), .string (a0.extract 7 ((wrap64 (7 + (wrap64 (bt a0 6)))) : Int).toNat)] 30 (0, 0)) (by (with_reducible repeat (first | refine blk_drewN ?_ _ | refine blk_drew ?_ | refine blk_alloc ?_ _)); refine blk_put (cs := #[.int .i64 (wrap64 ((wrap64 ((wrap64 ((wrap64 ((wrap64 (bt a0 0)) * 16777216)) + (wrap64 ((wrap64 (bt a0 1)) * 65536)))) + (wrap64 ((wrap64 (bt a0 2)) * 256)))) + (wrap64 (bt a0 3)))), .int .i64 (wrap64 (bt a0 4)), .int .i64 (wrap64 (bt a0 5)), .string (⟨#[]⟩ : ByteArray)]) ?_ 3 _ rfl; (with_reducible repeat (first | refine blk_drewN ?_ _ | refine blk_drew ?_ | refine blk_alloc ?_ _)); exact BK123.out) hb); have n2_ := Aside0.mk (below_step (by repeat (first | (with_reducible first | exact HB.out | apply below_alloc | apply pw_below_drewN | apply below_drew1 | refine below_set ?_ GE122.out | refine below_set ?_ GE123.out) | exact HB.out)) hb); clear BK122; clear BK123; clear HB; have BK122 := n0_; have BK123 := n1_; have HB := n2_; clear n0_ n1_ n2_; (try clear hb); (try clear hb2); (try clear hk); (try clear hi); have hcz73_0 : w72.cell? ⟨gb122, 0, none⟩ = some (.int .i64 0) := (blk_cell BK122.out 0).trans rfl; have hcz73_1 : w72.cell? ⟨gb122, 1, none⟩ = some (.int .i64 0) := (blk_cell BK122.out 1).trans rfl; have hcz73_2 : w72.cell? ⟨gb122, 2, none⟩ = some (.int .i64 0) := (blk_cell BK122.out 2).trans rfl; have hcz73_3 : w72.cell? ⟨gb122, 3, none⟩ = some (.string (⟨#[]⟩ : ByteArray)) := (blk_cell BK122.out 3).trans rfl; have hfz73_0 := blk_frozen BK122.out 0; have hfz73_1 := blk_frozen BK122.out 1; have hfz73_2 := blk_frozen BK122.out 2; have hfz73_3 := blk_frozen BK122.out 3))
                              refine bodyPost_ret (results_ct rfl _ _ gb122 30 #[.int .i64 0, .int .i64 0, .int .i64 0, .string (⟨#[]⟩ : ByteArray)] (0, 0) _ rfl (by (with_reducible repeat (first | refine blk_drewN ?_ _ | refine blk_drew ?_ | refine blk_alloc ?_ _)); refine blk_put (cs := #[.int .i64 0, .int .i64 0, .int .i64 0, .string (⟨#[]⟩ : ByteArray)]) ?_ 3 _ rfl; (with_reducible repeat (first | refine blk_drewN ?_ _ | refine blk_drew ?_ | refine blk_alloc ?_ _)); refine blk_put (cs := #[.int .i64 0, .int .i64 0, .int .i64 0, .string (⟨#[]⟩ : ByteArray)]) ?_ 2 _ rfl; (with_reducible repeat (first | refine blk_drewN ?_ _ | refine blk_drew ?_ | refine blk_alloc ?_ _)); refine blk_put (cs := #[.int .i64 0, .int .i64 0, .int .i64 0, .string (⟨#[]⟩ : ByteArray)]) ?_ 1 _ rfl; (with_reducible repeat (first | refine blk_drewN ?_ _ | refine blk_drew ?_ | refine blk_alloc ?_ _)); refine blk_put (cs := #[.int .i64 0, .int .i64 0, .int .i64 0, .string (⟨#[]⟩ : ByteArray)]) ?_ 0 _ rfl; (with_reducible repeat (first | refine blk_drewN ?_ _ | refine blk_drew ?_ | refine blk_alloc ?_ _)); exact BK122.out) Try.underlying30 rfl (by kernel_rfl)) rfl ?_
                              exact ⟨by first | rfl | (simp [errW_none, errW_some] <;> rfl) | (simp [*, errW_none, errW_some] <;> rfl), by repeat (first | (with_reducible first | exact HB.out | apply below_alloc | apply pw_below_drewN | apply below_drew1 | refine below_set ?_ GE122.out | refine below_set ?_ GE123.out) | exact HB.out)⟩
                          · rw [if_neg c62] at H
                            exact absurd H (by simp)
                        · rw [if_neg c61] at H
                          exact absurd H (by simp)
                · rw [if_neg c15] at H
                  exact absurd H (by simp)
              · rw [if_neg c13] at H
                exact absurd H (by simp)
            · rw [if_neg c11] at H
              exact absurd H (by simp)
          · rw [if_neg c9] at H
            exact absurd H (by simp)
        · rw [if_neg c7] at H
          exact absurd H (by simp)
      · rw [if_neg c5] at H
        exact absurd H (by simp)
    · rw [if_neg c3] at H
      exact absurd H (by simp)
  · rw [if_neg c2] at H
    have c2b0 : ((a0.size : Int) == 64) = false := beq_eq_false_iff_ne.mpr c2
    have c2b1 : ((a0.size : Int) != 64) = true := bne_iff_ne.mpr c2
    simp only [Option.some.injEq, Prod.mk.injEq] at H
    obtain ⟨rfl, rfl, rfl, rfl, rfl⟩ := H
    go_enter Try.func16, Try.ntmps16
    go_wp2_with (first | ((with_reducible refine gate_dst (N := 2) rfl ?_); refine box_event ?hg (N := 2) ?hd (cs := #[.int .i64 0, .int .i64 0, .int .i64 0, .string (⟨#[]⟩ : ByteArray)]) (t := 30) ?hr ?_; (case hd => rfl); (case hg => rfl); (case hr => first | (go_simp; done) | (go_simp; rfl)); intro gb122 hg w74 hbox hb; have n0_ := Aside0.mk (below_step (by repeat (first | (with_reducible first | exact HB.out | apply below_alloc | apply pw_below_drewN | apply below_drew1) | exact HB.out)) hb); have n1_ := Aside0.mk (hbox); have n2_ := Aside0.mk ((by rw [hg]; exact (below_size (by repeat (first | (with_reducible first | exact HB.out | apply below_alloc | apply pw_below_drewN | apply below_drew1) | exact HB.out))) : w.heap.size ≤ gb122)); have n3_ := Aside0.mk ((by rw [hg]; exact (below_size (by repeat (first | (with_reducible first | exact HB.out | apply below_alloc | apply pw_below_drewN | apply below_drew1) | exact HB.out))) : w.heap.size ≤ gb122)); clear HB; have HB := n0_; have BK122 := n1_; have GW122 := n2_; have GE122 := n3_; clear n0_ n1_ n2_ n3_; clear hb hbox hg; have hcz75_0 : w74.cell? ⟨gb122, 0, none⟩ = some (.int .i64 0) := (blk_cell BK122.out 0).trans rfl; have hcz75_1 : w74.cell? ⟨gb122, 1, none⟩ = some (.int .i64 0) := (blk_cell BK122.out 1).trans rfl; have hcz75_2 : w74.cell? ⟨gb122, 2, none⟩ = some (.int .i64 0) := (blk_cell BK122.out 2).trans rfl; have hcz75_3 : w74.cell? ⟨gb122, 3, none⟩ = some (.string (⟨#[]⟩ : ByteArray)) := (blk_cell BK122.out 3).trans rfl; have hfz75_0 := blk_frozen BK122.out 0; have hfz75_1 := blk_frozen BK122.out 1; have hfz75_2 := blk_frozen BK122.out 2; have hfz75_3 := blk_frozen BK122.out 3))
    refine bodyPost_ret (results_ct rfl _ _ gb122 30 #[.int .i64 0, .int .i64 0, .int .i64 0, .string (⟨#[]⟩ : ByteArray)] (0, 0) _ rfl (by (with_reducible repeat (first | refine blk_drewN ?_ _ | refine blk_drew ?_ | refine blk_alloc ?_ _)); refine blk_put (cs := #[.int .i64 0, .int .i64 0, .int .i64 0, .string (⟨#[]⟩ : ByteArray)]) ?_ 3 _ rfl; (with_reducible repeat (first | refine blk_drewN ?_ _ | refine blk_drew ?_ | refine blk_alloc ?_ _)); refine blk_put (cs := #[.int .i64 0, .int .i64 0, .int .i64 0, .string (⟨#[]⟩ : ByteArray)]) ?_ 2 _ rfl; (with_reducible repeat (first | refine blk_drewN ?_ _ | refine blk_drew ?_ | refine blk_alloc ?_ _)); refine blk_put (cs := #[.int .i64 0, .int .i64 0, .int .i64 0, .string (⟨#[]⟩ : ByteArray)]) ?_ 1 _ rfl; (with_reducible repeat (first | refine blk_drewN ?_ _ | refine blk_drew ?_ | refine blk_alloc ?_ _)); refine blk_put (cs := #[.int .i64 0, .int .i64 0, .int .i64 0, .string (⟨#[]⟩ : ByteArray)]) ?_ 0 _ rfl; (with_reducible repeat (first | refine blk_drewN ?_ _ | refine blk_drew ?_ | refine blk_alloc ?_ _)); exact BK122.out) Try.underlying30 rfl (by kernel_rfl)) rfl ?_
    exact ⟨by first | rfl | (simp [errW_none, errW_some] <;> rfl) | (simp [*, errW_none, errW_some] <;> rfl), by repeat (first | (with_reducible first | exact HB.out | apply below_alloc | apply pw_below_drewN | apply below_drew1 | refine below_set ?_ GE122.out) | exact HB.out)⟩

end Go.Proofs.Ytojehachhfcfaaa.Print
