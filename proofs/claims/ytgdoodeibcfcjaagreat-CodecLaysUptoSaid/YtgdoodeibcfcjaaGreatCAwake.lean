/- The chapter's examples, walked. Printed by cawk.py. -/
import Derived.Test.YtgdoodeibcfcjaaGreatCSameH
import Derived.Test.YtgdoodeibcfcjaaGreatCTherePure
set_option linter.unusedVariables false
set_option linter.unusedSimpArgs false
namespace Go.Proofs.YtgdoodeibcfcjaaGreat.Wire
open Go.RowKit Go.Proofs.YtgdoodeibcfcjaaGreat.NumsPure Go.Proofs.YtgdoodeibcfcjaaGreat.CPure Go.Proofs.YtgdoodeibcfcjaaGreat.Own
open Go.Proofs.YtgdoodeibcfcjaaGreat.Put (digits digits_lt digits_ge)
/-- What House answers, the error's number and the lists spelled. -/
def HouseV (en : Int) (R : Nat → List (List Value)) (z : Int) (w : World) (e : Ending) (w' : World) : Prop := Below w.heap.size w w' ∧ ∃ vs, e = .returned (.tuple #[.agg vs.toArray, .int .i64 en]) ∧ HouseA w' vs R z
theorem house_val (D : List UInt8) (S : ByteArray) (hS_ : S = ⟨D.toArray⟩) (hl : D.length ≤ 100000000) (en : Int) (he : endN (hS D) = en) (w : World) : Calls Tryz.prog 13 #[.string S] w (HouseV en (hR D) (hZ D) w) := by
  subst hS_; subst he
  exact house_any D hl w
theorem HouseA.to {w : World} {vs : List Value} {R R' : Nat → List (List Value)} {z z' : Int} (h : HouseA w vs R z) (hR' : ∀ j, j < 14 → R j = R' j) (hz : z = z') : HouseA w vs R' z' :=
  ⟨h.len, fun j hj => by
    obtain ⟨A, c, e, hr⟩ := h.row j hj
    rw [hR' j hj] at e hr
    exact ⟨A, c, e, hr⟩, by rw [← hz]; exact h.num⟩
theorem cell_two (w : World) (o : Obj) (v1 v2 : Value) (T1 T2 : TypeId) : (((w.alloc o).alloc (.cells #[v1] T1)).alloc (.cells #[v2] T2)).cell? ⟨w.heap.size + 1, 0, none⟩ = some v1 ∧ (((w.alloc o).alloc (.cells #[v1] T1)).alloc (.cells #[v2] T2)).cell? ⟨w.heap.size + 1 + 1, 0, none⟩ = some v2 := by
  have e : (w.alloc o).heap.size = w.heap.size + 1 := by simp
  have e2 : ((w.alloc o).alloc (.cells #[v1] T1)).heap.size = w.heap.size + 1 + 1 := by simp
  have k1 := (Cs.keep (cs_alloc (w.alloc o) #[v1] T1 _ rfl) ((alloc_below ((w.alloc o).alloc (.cells #[v1] T1)) (.cells #[v2] T2)).block _ (by simp))).cell 0
  have k2 := (cs_alloc ((w.alloc o).alloc (.cells #[v1] T1)) #[v2] T2 _ rfl).cell 0
  rw [e] at k1
  rw [e2] at k2
  exact ⟨k1, k2⟩
theorem cs_three {w w7 : World} {cs : Array Value} {T : TypeId} {vs : List Value} {o1 o2 : Obj} (h : cs = vs.toArray) (hb : Below (((w.alloc (.cells cs T)).alloc o1).alloc o2).heap.size (((w.alloc (.cells cs T)).alloc o1).alloc o2) w7) : Cs w.heap.size T vs w7 :=
  Cs.keep (Cs.keep (Cs.keep (cs_alloc w cs T vs h) ((alloc_below _ o1).block _ (by simp))) ((alloc_below _ o2).block _ (by simp; omega))) (hb.block _ (by simp; omega))
theorem rowA_one {w : World} {b : Nat} {v : Value} {k : K} (hc : w.cell? ⟨b, 0, none⟩ = some v) (hk : IsK k v) : RowA w (some ⟨b, 0, none⟩) 1 [k] 1 [[v]] := by
  refine ⟨fun _ => ⟨_, rfl, World.block_lt_of_cell? w _ hc, fun i x hx m u hu => ?_⟩, Nat.le_refl _, fun x hx => ?_, by simp⟩
  · have hi : i = 0 := by have := (List.getElem?_eq_some_iff.1 hx).1; simpa using this
    subst hi
    obtain rfl : [v] = x := by simpa using hx
    have hm : m = 0 := by have := (List.getElem?_eq_some_iff.1 hu).1; simpa using this
    subst hm
    obtain rfl : v = u := by simpa using hu
    exact hc
  · rw [List.mem_singleton.1 hx]
    exact ⟨_, _, rfl, hk, rfl⟩
theorem cmd_ex {w : World} {b1 b2 : Nat} (h1 : w.cell? ⟨b1, 0, none⟩ = some (.string ⟨#[97]⟩)) (h2 : w.cell? ⟨b2, 0, none⟩ = some (.int .i64 (-1))) :
    Calls Tryz.prog 10 #[.agg #[.int .i64 3, .slice (some ⟨b1, 0, none⟩) 1 1, .slice (some ⟨b2, 0, none⟩) 1 1]] w fun e w' => e = .returned (.string ⟨#[6, 1, 1, 97, 1, 1]⟩) ∧ Below w.heap.size w w' := by
  refine (cmdBytes_any (R1 := [[.string ⟨#[97]⟩]]) (R2 := [[.int .i64 (-1)]]) (op := 3) (rowA_one (k := .t) h1 ⟨_, rfl⟩) (rowA_one (k := .n) h2 ⟨_, rfl⟩) (by rw [enc_ex]; decide)).mono fun e w' h => ?_
  rw [enc_ex] at h
  exact h
theorem bytes_nil (Z : ByteArray) (hZ_ : (⟨(encHouse (fun _ => []) 0).toArray⟩ : ByteArray) = Z) (w : World) : Calls Tryz.prog 8 #[.agg #[.slice none 0 0, .slice none 0 0, .slice none 0 0, .slice none 0 0, .slice none 0 0, .slice none 0 0, .slice none 0 0, .slice none 0 0, .slice none 0 0, .slice none 0 0, .slice none 0 0, .slice none 0 0, .slice none 0 0, .slice none 0 0, .int .i64 0]] w fun e w' => e = .returned (.string Z) ∧ Below w.heap.size w w' := by
  subst hZ_
  exact bytes_any (houseA_nil w) (by rw [enc_nil]; decide)
set_option maxHeartbeats 16000000 in
set_option maxRecDepth 100000 in
theorem awake_any (w : World) : Calls Tryz.prog 6 #[] w (YesB w) := by
  obtain ⟨D14, hd14⟩ : ∃ D : List UInt8, D = List.replicate 14 0 := ⟨_, rfl⟩
  obtain ⟨D15, hd15⟩ : ∃ D : List UInt8, D = List.replicate 15 0 := ⟨_, rfl⟩
  obtain ⟨D16, hd16⟩ : ∃ D : List UInt8, D = List.replicate 16 0 := ⟨_, rfl⟩
  obtain ⟨Z14, hz14⟩ : ∃ Z : ByteArray, Z = ⟨D14.toArray⟩ := ⟨_, rfl⟩
  obtain ⟨Z15, hz15⟩ : ∃ Z : ByteArray, Z = ⟨D15.toArray⟩ := ⟨_, rfl⟩
  obtain ⟨Z16, hz16⟩ : ∃ Z : ByteArray, Z = ⟨D16.toArray⟩ := ⟨_, rfl⟩
  have c14 := fun w => zeros_any 14 (by decide) w
  have c15 := fun w => zeros_any 15 (by decide) w
  have c16 := fun w => zeros_any 16 (by decide) w
  rw [← hd14, ← hz14] at c14
  rw [← hd15, ← hz15] at c15
  rw [← hd16, ← hz16] at c16
  have H14 := Aside0.mk (fun w => house_val D14 Z14 hz14 (by rw [hd14]; simp) 44 (by rw [hd14]; exact end_14) w)
  have H15 := Aside0.mk (fun w => house_val D15 Z15 hz15 (by rw [hd15]; simp) 0 (by rw [hd15]; exact end_15) w)
  have H16 := Aside0.mk (fun w => house_val D16 Z16 hz16 (by rw [hd16]; simp) 45 (by rw [hd16]; exact end_16) w)
  have HE : Aside0 ((⟨(encHouse (fun _ => []) 0).toArray⟩ : ByteArray) = Z15) := ⟨by rw [enc_nil, hz15, hd15]⟩
  have HR15 : Aside0 ((∀ j, j < 14 → hR D15 j = []) ∧ hZ D15 = 0) := ⟨by rw [hd15]; exact ⟨hR_15, hZ_15⟩⟩
  have HC14 := Aside0.mk c14
  have HC15 := Aside0.mk c15
  have HC16 := Aside0.mk c16
  clear hd14 hd15 hd16 hz14 hz15 hz16 c14 c15 c16
  go_enter Tryz.func6, Tryz.ntmps6
  go_wp2_with (fail)
  refine (HC14.out _).mono ?_
  rintro e w1 ⟨rfl, hb⟩
  have HB1 : Aside0 (Below w.heap.size w w1) := ⟨hb⟩
  clear hb
  go_wp2_with (fail)
  refine (H14.out _).mono ?_
  rintro e w2 ⟨hb, vs, rfl, hA⟩
  obtain ⟨A0, c0, A1, c1, A2, c2, A3, c3, A4, c4, A5, c5, A6, c6, A7, c7, A8, c8, A9, c9, A10, c10, A11, c11, A12, c12, A13, c13, rfl, -⟩ := hA.shape
  have HA := Aside0.mk hA
  have HB2 : Aside0 (Below w.heap.size w w2) := ⟨HB1.out.trans (hb.mono HB1.out.size)⟩
  clear hb hA
  go_wp2_with (fail)
  refine (HC16.out _).mono ?_
  rintro e w3 ⟨rfl, hb⟩
  have HB3 : Aside0 (Below w.heap.size w w3) := ⟨(HB2.out.alloc HB2.out.size _).trans (hb.mono (by have := HB2.out.size; simp; omega))⟩
  clear hb
  go_wp2_with (fail)
  refine (H16.out _).mono ?_
  rintro e w4 ⟨hb, vs, rfl, hA2⟩
  obtain ⟨B0, d0, B1, d1, B2, d2, B3, d3, B4, d4, B5, d5, B6, d6, B7, d7, B8, d8, B9, d9, B10, d10, B11, d11, B12, d12, B13, d13, rfl, -⟩ := hA2.shape
  have HA2 := Aside0.mk hA2
  have HB4 : Aside0 (Below w.heap.size w w4) := ⟨HB3.out.trans (hb.mono HB3.out.size)⟩
  clear hb hA2
  go_wp2_with (fail)
  refine (HC15.out _).mono ?_
  rintro e w5 ⟨rfl, hb⟩
  have HB5 : Aside0 (Below w.heap.size w w5) := ⟨(HB4.out.alloc HB4.out.size _).trans (hb.mono (by have := HB4.out.size; simp; omega))⟩
  clear hb
  go_wp2_with (fail)
  refine (H15.out _).mono ?_
  rintro e w6 ⟨hb, vs, rfl, hA3⟩
  obtain ⟨C0, f0, C1, f1, C2, f2, C3, f3, C4, f4, C5, f5, C6, f6, C7, f7, C8, f8, C9, f9, C10, f10, C11, f11, C12, f12, C13, f13, rfl, -⟩ := hA3.shape
  have HA3 : Aside0 (HouseA w6 _ (fun _ => []) 0) := ⟨hA3.to HR15.out.1 HR15.out.2⟩
  have HB6 : Aside0 (Below w.heap.size w w6) := ⟨HB5.out.trans (hb.mono HB5.out.size)⟩
  clear hb hA3
  go_wp2_with (fail)
  refine (cmd_ex ?hca ?hcb).mono ?_
  case hca => exact (cell_two _ _ _ _ _ _).1
  case hcb => exact (cell_two _ _ _ _ _ _).2
  rintro e w7 ⟨rfl, hb⟩
  have HB7 : Aside0 (Below w.heap.size w w7) := ⟨(((HB6.out.alloc HB6.out.size _).alloc (by have := HB6.out.size; simp; omega) _).alloc (by have := HB6.out.size; simp; omega) _).trans (hb.mono (by have := HB6.out.size; simp; omega))⟩
  have HK7 : Aside0 (Below w6.heap.size w6 w7) := ⟨((((Below.refl _ w6).alloc (Nat.le_refl _) _).alloc (by simp) _).alloc (by simp; omega) _).trans (hb.mono (by simp; omega))⟩
  have g5 := cs_three (vs := [.slice C0 (hR D15 0).length f0, .slice C1 (hR D15 1).length f1, .slice C2 (hR D15 2).length f2, .slice C3 (hR D15 3).length f3, .slice C4 (hR D15 4).length f4, .slice C5 (hR D15 5).length f5, .slice C6 (hR D15 6).length f6, .slice C7 (hR D15 7).length f7, .slice C8 (hR D15 8).length f8, .slice C9 (hR D15 9).length f9, .slice C10 (hR D15 10).length f10, .slice C11 (hR D15 11).length f11, .slice C12 (hR D15 12).length f12, .slice C13 (hR D15 13).length f13, .int .i64 (hZ D15)]) rfl hb
  have G5 := Aside0.mk g5
  clear g5 hb
  go_wp2_with (fail)
  refine (bytes_nil Z15 HE.out _).mono ?_
  rintro e w8 ⟨rfl, hb8⟩
  have HB8 := Aside0.mk hb8
  clear hb8
  go_wp2_with (fail)
  refine (HC15.out _).mono ?_
  rintro e w9 ⟨rfl, hb9⟩
  have HB9 : Aside0 (Below w7.heap.size w7 w9) := ⟨HB8.out.trans (hb9.mono HB8.out.size)⟩
  clear hb9
  have g5 := Cs.keep G5.out (HB9.out.block _ G5.out.lt)
  have k0 := g5.cell 0
  have k1 := g5.cell 1
  have k2 := g5.cell 2
  have k3 := g5.cell 3
  have k4 := g5.cell 4
  have k5 := g5.cell 5
  have k6 := g5.cell 6
  have k7 := g5.cell 7
  have k8 := g5.cell 8
  have k9 := g5.cell 9
  have k10 := g5.cell 10
  have k11 := g5.cell 11
  have k12 := g5.cell 12
  have k13 := g5.cell 13
  have k14 := g5.cell 14
  simp only [List.getElem?_cons_zero, List.getElem?_cons_succ] at k0 k1 k2 k3 k4 k5 k6 k7 k8 k9 k10 k11 k12 k13 k14
  clear g5
  go_wp2_with (fail)
  refine (Same_any (HA3.out.below (HK7.out.trans (HB9.out.mono HK7.out.size))) (houseA_nil _)).mono ?_
  rintro e w10 ⟨rfl, hb10⟩
  go_wp2
  go_ret
  exact ⟨rfl, HB7.out.trans ((HB9.out.mono HB7.out.size).trans (hb10.mono (Nat.le_trans HB7.out.size HB9.out.size)))⟩
end Go.Proofs.YtgdoodeibcfcjaaGreat.Wire
