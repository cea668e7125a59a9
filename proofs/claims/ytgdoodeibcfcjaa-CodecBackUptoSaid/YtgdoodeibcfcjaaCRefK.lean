/- The reference's reader: key and lines. -/
import Derived.Test.YtgdoodeibcfcjaaCRef
import Derived.Test.YtgdoodeibcfcjaaCEach
import Derived.Test.YtgdoodeibcfcjaaCList
set_option linter.unusedVariables false
set_option linter.unusedSimpArgs false
namespace Go.Proofs.Ytgdoodeibcfcjaa.Wire
open Go.RowKit Go.Proofs.Ytgdoodeibcfcjaa.NumsPure Go.Proofs.Ytgdoodeibcfcjaa.CPure Go.Proofs.Ytgdoodeibcfcjaa.Own
/-- What a reading function of more than one cell answers. -/
def ReadsM (fn : Nat) (ks : List K) : Prop := ∀ (rb : Nat) (s : Rd) (w : World), RW rb s w → Calls Try.prog fn #[.pointer (some ⟨rb, 0, none⟩)] w fun e w' => e = .returned (.agg (rds ks s (ks.map zeroV)).2.toArray) ∧ RW rb (rds ks s (ks.map zeroV)).1 w' ∧ Fr (fun i => i = rb) w w'
def ks_key : List K := [.t, .t, .t, .n]
theorem Fr.blk {rb : Nat} {w w' : World} (h : Fr (fun i => i = rb) w w') {b : Nat} {T : TypeId} {vs : List Value} (k : Cs b T vs w) (hne : b ≠ rb) : Cs b T vs w' := Cs.keep k (h.block b (Cs.lt k) hne)
set_option maxHeartbeats 4000000 in
set_option maxRecDepth 100000 in
theorem key_m : ReadsM 27 ks_key := by
  intro rb s w h
  have hrb := h.lt
  have HH := Aside0.mk h
  obtain ⟨p1, hp1⟩ : ∃ p, p = rd1 .t s (zeroV .t) := ⟨_, rfl⟩
  obtain ⟨p2, hp2⟩ : ∃ p, p = rd1 .t p1.1 (zeroV .t) := ⟨_, rfl⟩
  obtain ⟨p3, hp3⟩ : ∃ p, p = rd1 .t p2.1 (zeroV .t) := ⟨_, rfl⟩
  obtain ⟨p4, hp4⟩ : ∃ p, p = rd1 .n p3.1 (zeroV .n) := ⟨_, rfl⟩
  have HE : Aside0 (rds ks_key s (ks_key.map zeroV) = (p4.1, [p1.2, p2.2, p3.2, p4.2])) := ⟨by rw [hp4, hp3, hp2, hp1]; rfl⟩
  obtain ⟨x1, h1⟩ : ∃ x, p1.2 = .string x := by rw [hp1]; exact isK_rd1 .t _ _ ⟨_, rfl⟩
  obtain ⟨x2, h2⟩ : ∃ x, p2.2 = .string x := by rw [hp2]; exact isK_rd1 .t _ _ ⟨_, rfl⟩
  obtain ⟨x3, h3⟩ : ∃ x, p3.2 = .string x := by rw [hp3]; exact isK_rd1 .t _ _ ⟨_, rfl⟩
  obtain ⟨x4, h4⟩ : ∃ x, p4.2 = .int .i64 x := by rw [hp4]; exact isK_rd1 .n _ _ ⟨_, rfl⟩
  have c1 : ∀ w, RW rb s w → Calls Try.prog 24 #[.pointer (some ⟨rb, 0, none⟩)] w fun e w' => e = .returned (.string x1) ∧ RW rb p1.1 w' ∧ Fr (fun i => i = rb) w w' := fun w k => by have := text_1 rb s w k; rw [← hp1, h1] at this; exact this
  have c2 : ∀ w, RW rb p1.1 w → Calls Try.prog 24 #[.pointer (some ⟨rb, 0, none⟩)] w fun e w' => e = .returned (.string x2) ∧ RW rb p2.1 w' ∧ Fr (fun i => i = rb) w w' := fun w k => by have := text_1 rb p1.1 w k; rw [← hp2, h2] at this; exact this
  have c3 : ∀ w, RW rb p2.1 w → Calls Try.prog 24 #[.pointer (some ⟨rb, 0, none⟩)] w fun e w' => e = .returned (.string x3) ∧ RW rb p3.1 w' ∧ Fr (fun i => i = rb) w w' := fun w k => by have := text_1 rb p2.1 w k; rw [← hp3, h3] at this; exact this
  have c4 : ∀ w, RW rb p3.1 w → Calls Try.prog 25 #[.pointer (some ⟨rb, 0, none⟩)] w fun e w' => e = .returned (.int .i64 x4) ∧ RW rb p4.1 w' ∧ Fr (fun i => i = rb) w w' := fun w k => by have := num_1 rb p3.1 w k; rw [← hp4, h4] at this; exact this
  have HC := Aside0.mk (And.intro c1 (And.intro c2 (And.intro c3 c4)))
  rw [h1, h2, h3, h4] at HE
  clear h hp1 hp2 hp3 hp4 h1 h2 h3 h4 c1 c2 c3 c4
  go_enter Try.func27, Try.ntmps27
  go_wp2_with (fail)
  have g0 : Cs w.heap.size 82 [.string ⟨#[]⟩, .string ⟨#[]⟩, .string ⟨#[]⟩, .int .i64 0] (w.alloc (.cells #[.string ⟨#[]⟩, .string ⟨#[]⟩, .string ⟨#[]⟩, .int .i64 0] 82)) := cs_alloc _ _ _ _ rfl
  have G0 := Aside0.mk g0
  clear g0
  refine (HC.out.1 _ (HH.out.below (alloc_below _ _))).mono ?_
  rintro e w1 ⟨rfl, q1, f1⟩
  have H1 : Aside0 (RW rb p1.1 w1 ∧ Cs w.heap.size 82 [.string ⟨#[]⟩, .string ⟨#[]⟩, .string ⟨#[]⟩, .int .i64 0] w1 ∧ Fr (fun i => i = rb) w w1) := ⟨q1, f1.blk G0.out (by omega), (Fr.of_below (alloc_below _ _)).trans f1 fun i hi => .inl hi⟩
  clear q1 f1 G0
  go_wp2_with (fail)
  refine (HC.out.2.1 _ H1.out.1).mono ?_
  rintro e w2 ⟨rfl, q1, f1⟩
  have H2 : Aside0 (RW rb p2.1 w2 ∧ Cs w.heap.size 82 [.string ⟨#[]⟩, .string ⟨#[]⟩, .string ⟨#[]⟩, .int .i64 0] w2 ∧ Fr (fun i => i = rb) w w2) := ⟨q1, f1.blk H1.out.2.1 (by omega), H1.out.2.2.trans f1 fun i hi => .inl hi⟩
  clear q1 f1 H1
  go_wp2_with (fail)
  refine (HC.out.2.2.1 _ H2.out.1).mono ?_
  rintro e w3 ⟨rfl, q1, f1⟩
  have H3 : Aside0 (RW rb p3.1 w3 ∧ Cs w.heap.size 82 [.string ⟨#[]⟩, .string ⟨#[]⟩, .string ⟨#[]⟩, .int .i64 0] w3 ∧ Fr (fun i => i = rb) w w3) := ⟨q1, f1.blk H2.out.2.1 (by omega), H2.out.2.2.trans f1 fun i hi => .inl hi⟩
  clear q1 f1 H2
  go_wp2_with (fail)
  refine (HC.out.2.2.2 _ H3.out.1).mono ?_
  rintro e w4 ⟨rfl, q1, f1⟩
  have H4 : Aside0 (RW rb p4.1 w4 ∧ Fr (fun i => i = rb) w w4) := ⟨q1, H3.out.2.2.trans f1 fun i hi => .inl hi⟩
  have g4 := f1.blk H3.out.2.1 (by omega)
  have r0 := g4.cell 0
  have r1 := g4.cell 1
  have r2 := g4.cell 2
  have r3 := g4.cell 3
  have fz := g4.frozen
  simp only [List.getElem?_cons_zero, List.getElem?_cons_succ] at r0 r1 r2 r3
  clear q1 f1 H3 g4
  go_wp2
  refine bodyPost_ret (v := .agg #[.string x1, .string x2, .string x3, .int .i64 x4]) (by simp [results, Try.results27, go_sem, r0, r1, r2, r3]) rfl ?_
  rw [HE.out]
  refine ⟨rfl, H4.out.1.other ?_, (((H4.out.2.set _ _ (.inr (Nat.le_refl _))).set _ _ (.inr (Nat.le_refl _))).set _ _ (.inr (Nat.le_refl _))).set _ _ (.inr (Nat.le_refl _))⟩
  have hne : rb ≠ w.heap.size := by omega
  rw [Below.heap_setCell _ _ _ _ hne, Below.heap_setCell _ _ _ _ hne, Below.heap_setCell _ _ _ _ hne, Below.heap_setCell _ _ _ _ hne]
def ks_line6 : List K := [.t, .n, .n, .n, .n, .n]
def ksL (m : Nat) : List K := (List.replicate m ks_line6).flatten
theorem ksL_succ (m : Nat) : ksL (m + 1) = ks_line6 ++ ksL m := by simp [ksL, List.replicate_succ]
theorem ksL_len (m : Nat) : (ksL m).length = m * 6 := by
  induction m with
  | zero => rfl
  | succ m ih => rw [ksL_succ, List.length_append, ih]; simp [ks_line6]; omega
/-- Behind i lines. -/
structure LinesAt (rb b : Nat) (s : Rd) (i : Nat) (st : Rd) (don : List Value) (w0 w : World) : Prop where
  len : don.length = i * 6
  all : rds (ksL 8) s ((ksL 8).map zeroV) = ((rds (ksL (8 - i)) st ((ksL (8 - i)).map zeroV)).1, don ++ (rds (ksL (8 - i)) st ((ksL (8 - i)).map zeroV)).2)
  rw_ : RW rb st w
  cs : Cs b 90 (don ++ (ksL (8 - i)).map zeroV) w
  fr : Fr (fun i => i = rb) w0 w
theorem heap_setCells (b : Nat) : ∀ (vs : List Value) (o : Nat) (w : World) (i : Nat), i ≠ b → (w.setCells b o vs).heap[i]? = w.heap[i]?
  | [], _, _, _, _ => rfl
  | v :: r, o, w, i, hi => by
    rw [World.setCells, heap_setCells b r (o + 1) _ i hi, Below.heap_setCell _ _ _ _ (show i ≠ b from hi)]
theorem same_setCells (b : Nat) : ∀ (vs : List Value) (o : Nat) (w : World), (w.setCells b o vs).os = w.os ∧ (w.setCells b o vs).tape = w.tape ∧ (w.setCells b o vs).output = w.output ∧ (w.setCells b o vs).heap.size = w.heap.size
  | [], _, _ => ⟨rfl, rfl, rfl, rfl⟩
  | v :: r, o, w => by
    obtain ⟨h1, h2, h3, h4⟩ := same_setCells b r (o + 1) (w.setCell ⟨b, o, none⟩ v)
    rw [World.setCells]
    exact ⟨h1, h2, h3, by rw [h4]; simp⟩
theorem set_off (don L : List Value) (j : Nat) (x : Value) : (don ++ L).set (don.length + j) x = don ++ L.set j x := by
  rw [List.set_append_right _ _ (by omega), show don.length + j - don.length = j from by omega]
theorem set6 (don rest : List Value) (z0 z1 z2 z3 z4 z5 x0 x1 x2 x3 x4 x5 : Value) (n : Nat) (h : don.length = n) : ((((((don ++ z0 :: z1 :: z2 :: z3 :: z4 :: z5 :: rest).set n x0).set (n + 1) x1).set (n + 2) x2).set (n + 3) x3).set (n + 4) x4).set (n + 5) x5 = don ++ [x0, x1, x2, x3, x4, x5] ++ rest := by
  subst h
  have e0 := set_off don (z0 :: z1 :: z2 :: z3 :: z4 :: z5 :: rest) 0 x0
  rw [Nat.add_zero] at e0
  rw [e0, set_off, set_off, set_off, set_off, set_off]
  simp
theorem zeros_lines : (ksL 8).map zeroV = [.string ⟨#[]⟩, .int .i64 0, .int .i64 0, .int .i64 0, .int .i64 0, .int .i64 0, .string ⟨#[]⟩, .int .i64 0, .int .i64 0, .int .i64 0, .int .i64 0, .int .i64 0, .string ⟨#[]⟩, .int .i64 0, .int .i64 0, .int .i64 0, .int .i64 0, .int .i64 0, .string ⟨#[]⟩, .int .i64 0, .int .i64 0, .int .i64 0, .int .i64 0, .int .i64 0, .string ⟨#[]⟩, .int .i64 0, .int .i64 0, .int .i64 0, .int .i64 0, .int .i64 0, .string ⟨#[]⟩, .int .i64 0, .int .i64 0, .int .i64 0, .int .i64 0, .int .i64 0, .string ⟨#[]⟩, .int .i64 0, .int .i64 0, .int .i64 0, .int .i64 0, .int .i64 0, .string ⟨#[]⟩, .int .i64 0, .int .i64 0, .int .i64 0, .int .i64 0, .int .i64 0] := rfl
set_option maxHeartbeats 8000000 in
set_option maxRecDepth 100000 in
theorem lines_m : ReadsM 28 (ksL 8) := by
  intro rb s w h
  have hrb := h.lt
  have HH := Aside0.mk h
  clear h
  go_enter Try.func28, Try.ntmps28
  go_wp2_with (fail)
  obtain ⟨W, hW⟩ : ∃ W, W = (w.alloc (.cells #[.string ⟨#[]⟩, .int .i64 0, .int .i64 0, .int .i64 0, .int .i64 0, .int .i64 0, .string ⟨#[]⟩, .int .i64 0, .int .i64 0, .int .i64 0, .int .i64 0, .int .i64 0, .string ⟨#[]⟩, .int .i64 0, .int .i64 0, .int .i64 0, .int .i64 0, .int .i64 0, .string ⟨#[]⟩, .int .i64 0, .int .i64 0, .int .i64 0, .int .i64 0, .int .i64 0, .string ⟨#[]⟩, .int .i64 0, .int .i64 0, .int .i64 0, .int .i64 0, .int .i64 0, .string ⟨#[]⟩, .int .i64 0, .int .i64 0, .int .i64 0, .int .i64 0, .int .i64 0, .string ⟨#[]⟩, .int .i64 0, .int .i64 0, .int .i64 0, .int .i64 0, .int .i64 0, .string ⟨#[]⟩, .int .i64 0, .int .i64 0, .int .i64 0, .int .i64 0, .int .i64 0] 90)).alloc (.cells #[.string ⟨#[]⟩, .int .i64 0, .int .i64 0, .int .i64 0, .int .i64 0, .int .i64 0, .string ⟨#[]⟩, .int .i64 0, .int .i64 0, .int .i64 0, .int .i64 0, .int .i64 0, .string ⟨#[]⟩, .int .i64 0, .int .i64 0, .int .i64 0, .int .i64 0, .int .i64 0, .string ⟨#[]⟩, .int .i64 0, .int .i64 0, .int .i64 0, .int .i64 0, .int .i64 0, .string ⟨#[]⟩, .int .i64 0, .int .i64 0, .int .i64 0, .int .i64 0, .int .i64 0, .string ⟨#[]⟩, .int .i64 0, .int .i64 0, .int .i64 0, .int .i64 0, .int .i64 0, .string ⟨#[]⟩, .int .i64 0, .int .i64 0, .int .i64 0, .int .i64 0, .int .i64 0, .string ⟨#[]⟩, .int .i64 0, .int .i64 0, .int .i64 0, .int .i64 0, .int .i64 0] 90) := ⟨_, rfl⟩
  have HW0 : Aside0 (LinesAt rb (w.heap.size + 1) s 0 s [] w W ∧ Cs w.heap.size 90 ((ksL 8).map zeroV) W) := ⟨by
    have hb : Below w.heap.size w W := by rw [hW]; exact ((Below.refl _ w).alloc (Nat.le_refl _) _).alloc (by simp) _
    refine ⟨⟨rfl, by simp, HH.out.below hb, ?_, Fr.of_below hb⟩, ?_⟩
    · rw [hW]
      have k := cs_alloc (w.alloc (.cells #[.string ⟨#[]⟩, .int .i64 0, .int .i64 0, .int .i64 0, .int .i64 0, .int .i64 0, .string ⟨#[]⟩, .int .i64 0, .int .i64 0, .int .i64 0, .int .i64 0, .int .i64 0, .string ⟨#[]⟩, .int .i64 0, .int .i64 0, .int .i64 0, .int .i64 0, .int .i64 0, .string ⟨#[]⟩, .int .i64 0, .int .i64 0, .int .i64 0, .int .i64 0, .int .i64 0, .string ⟨#[]⟩, .int .i64 0, .int .i64 0, .int .i64 0, .int .i64 0, .int .i64 0, .string ⟨#[]⟩, .int .i64 0, .int .i64 0, .int .i64 0, .int .i64 0, .int .i64 0, .string ⟨#[]⟩, .int .i64 0, .int .i64 0, .int .i64 0, .int .i64 0, .int .i64 0, .string ⟨#[]⟩, .int .i64 0, .int .i64 0, .int .i64 0, .int .i64 0, .int .i64 0] 90)) #[.string ⟨#[]⟩, .int .i64 0, .int .i64 0, .int .i64 0, .int .i64 0, .int .i64 0, .string ⟨#[]⟩, .int .i64 0, .int .i64 0, .int .i64 0, .int .i64 0, .int .i64 0, .string ⟨#[]⟩, .int .i64 0, .int .i64 0, .int .i64 0, .int .i64 0, .int .i64 0, .string ⟨#[]⟩, .int .i64 0, .int .i64 0, .int .i64 0, .int .i64 0, .int .i64 0, .string ⟨#[]⟩, .int .i64 0, .int .i64 0, .int .i64 0, .int .i64 0, .int .i64 0, .string ⟨#[]⟩, .int .i64 0, .int .i64 0, .int .i64 0, .int .i64 0, .int .i64 0, .string ⟨#[]⟩, .int .i64 0, .int .i64 0, .int .i64 0, .int .i64 0, .int .i64 0, .string ⟨#[]⟩, .int .i64 0, .int .i64 0, .int .i64 0, .int .i64 0, .int .i64 0] 90 ((ksL 8).map zeroV) (by rw [zeros_lines])
      have e : (w.alloc (.cells #[.string ⟨#[]⟩, .int .i64 0, .int .i64 0, .int .i64 0, .int .i64 0, .int .i64 0, .string ⟨#[]⟩, .int .i64 0, .int .i64 0, .int .i64 0, .int .i64 0, .int .i64 0, .string ⟨#[]⟩, .int .i64 0, .int .i64 0, .int .i64 0, .int .i64 0, .int .i64 0, .string ⟨#[]⟩, .int .i64 0, .int .i64 0, .int .i64 0, .int .i64 0, .int .i64 0, .string ⟨#[]⟩, .int .i64 0, .int .i64 0, .int .i64 0, .int .i64 0, .int .i64 0, .string ⟨#[]⟩, .int .i64 0, .int .i64 0, .int .i64 0, .int .i64 0, .int .i64 0, .string ⟨#[]⟩, .int .i64 0, .int .i64 0, .int .i64 0, .int .i64 0, .int .i64 0, .string ⟨#[]⟩, .int .i64 0, .int .i64 0, .int .i64 0, .int .i64 0, .int .i64 0] 90)).heap.size = w.heap.size + 1 := by simp
      rw [e] at k
      exact k
    · rw [hW]
      exact Cs.keep (cs_alloc w #[.string ⟨#[]⟩, .int .i64 0, .int .i64 0, .int .i64 0, .int .i64 0, .int .i64 0, .string ⟨#[]⟩, .int .i64 0, .int .i64 0, .int .i64 0, .int .i64 0, .int .i64 0, .string ⟨#[]⟩, .int .i64 0, .int .i64 0, .int .i64 0, .int .i64 0, .int .i64 0, .string ⟨#[]⟩, .int .i64 0, .int .i64 0, .int .i64 0, .int .i64 0, .int .i64 0, .string ⟨#[]⟩, .int .i64 0, .int .i64 0, .int .i64 0, .int .i64 0, .int .i64 0, .string ⟨#[]⟩, .int .i64 0, .int .i64 0, .int .i64 0, .int .i64 0, .int .i64 0, .string ⟨#[]⟩, .int .i64 0, .int .i64 0, .int .i64 0, .int .i64 0, .int .i64 0, .string ⟨#[]⟩, .int .i64 0, .int .i64 0, .int .i64 0, .int .i64 0, .int .i64 0] 90 ((ksL 8).map zeroV) (by rw [zeros_lines])) ((alloc_below _ _).block _ (by simp))⟩
  rw [← hW]
  clear hW HH
  go_loopw [4] (fun v4 wr => ∃ (i : Nat) (st : Rd) (don : List Value), i ≤ 8 ∧ v4 = .int .i64 i ∧ Aside0 (LinesAt rb (w.heap.size + 1) s i st don w wr ∧ Cs w.heap.size 90 ((ksL 8).map zeroV) wr)) (fun v4 _ => 8 - (intOf v4).toNat)
  case atStart => exact ⟨0, s, [], by omega, rfl, HW0⟩
  case round =>
    obtain ⟨i, st, don, hi, rfl, HI⟩ := hrel
    clear HW0
    by_cases hlt : i < 8
    · obtain ⟨st0, hst0⟩ : ∃ t : Rd × Value, t = (st, .bool false) := ⟨_, rfl⟩
      obtain ⟨p1, hp1⟩ : ∃ p, p = rd1 .t st (zeroV .t) := ⟨_, rfl⟩
      obtain ⟨p2, hp2⟩ : ∃ p, p = rd1 .n p1.1 (zeroV .n) := ⟨_, rfl⟩
      obtain ⟨p3, hp3⟩ : ∃ p, p = rd1 .n p2.1 (zeroV .n) := ⟨_, rfl⟩
      obtain ⟨p4, hp4⟩ : ∃ p, p = rd1 .n p3.1 (zeroV .n) := ⟨_, rfl⟩
      obtain ⟨p5, hp5⟩ : ∃ p, p = rd1 .n p4.1 (zeroV .n) := ⟨_, rfl⟩
      obtain ⟨p6, hp6⟩ : ∃ p, p = rd1 .n p5.1 (zeroV .n) := ⟨_, rfl⟩
      have HE : Aside0 (rds ks_line6 st (ks_line6.map zeroV) = (p6.1, [p1.2, p2.2, p3.2, p4.2, p5.2, p6.2])) := ⟨by rw [hp6, hp5, hp4, hp3, hp2, hp1]; rfl⟩
      obtain ⟨x1, h1⟩ : ∃ x, p1.2 = .string x := by rw [hp1]; exact isK_rd1 .t _ _ ⟨_, rfl⟩
      have c1 : ∀ w, RW rb st w → Calls Try.prog 24 #[.pointer (some ⟨rb, 0, none⟩)] w fun e w' => e = .returned (.string x1) ∧ RW rb p1.1 w' ∧ Fr (fun i => i = rb) w w' := fun w k => by have := text_1 rb st w k; rw [← hp1, h1] at this; exact this
      obtain ⟨x2, h2⟩ : ∃ x, p2.2 = .int .i64 x := by rw [hp2]; exact isK_rd1 .n _ _ ⟨_, rfl⟩
      have c2 : ∀ w, RW rb p1.1 w → Calls Try.prog 25 #[.pointer (some ⟨rb, 0, none⟩)] w fun e w' => e = .returned (.int .i64 x2) ∧ RW rb p2.1 w' ∧ Fr (fun i => i = rb) w w' := fun w k => by have := num_1 rb p1.1 w k; rw [← hp2, h2] at this; exact this
      obtain ⟨x3, h3⟩ : ∃ x, p3.2 = .int .i64 x := by rw [hp3]; exact isK_rd1 .n _ _ ⟨_, rfl⟩
      have c3 : ∀ w, RW rb p2.1 w → Calls Try.prog 25 #[.pointer (some ⟨rb, 0, none⟩)] w fun e w' => e = .returned (.int .i64 x3) ∧ RW rb p3.1 w' ∧ Fr (fun i => i = rb) w w' := fun w k => by have := num_1 rb p2.1 w k; rw [← hp3, h3] at this; exact this
      obtain ⟨x4, h4⟩ : ∃ x, p4.2 = .int .i64 x := by rw [hp4]; exact isK_rd1 .n _ _ ⟨_, rfl⟩
      have c4 : ∀ w, RW rb p3.1 w → Calls Try.prog 25 #[.pointer (some ⟨rb, 0, none⟩)] w fun e w' => e = .returned (.int .i64 x4) ∧ RW rb p4.1 w' ∧ Fr (fun i => i = rb) w w' := fun w k => by have := num_1 rb p3.1 w k; rw [← hp4, h4] at this; exact this
      obtain ⟨x5, h5⟩ : ∃ x, p5.2 = .int .i64 x := by rw [hp5]; exact isK_rd1 .n _ _ ⟨_, rfl⟩
      have c5 : ∀ w, RW rb p4.1 w → Calls Try.prog 25 #[.pointer (some ⟨rb, 0, none⟩)] w fun e w' => e = .returned (.int .i64 x5) ∧ RW rb p5.1 w' ∧ Fr (fun i => i = rb) w w' := fun w k => by have := num_1 rb p4.1 w k; rw [← hp5, h5] at this; exact this
      obtain ⟨x6, h6⟩ : ∃ x, p6.2 = .int .i64 x := by rw [hp6]; exact isK_rd1 .n _ _ ⟨_, rfl⟩
      have c6 : ∀ w, RW rb p5.1 w → Calls Try.prog 25 #[.pointer (some ⟨rb, 0, none⟩)] w fun e w' => e = .returned (.int .i64 x6) ∧ RW rb p6.1 w' ∧ Fr (fun i => i = rb) w w' := fun w k => by have := num_1 rb p5.1 w k; rw [← hp6, h6] at this; exact this
      have HC := Aside0.mk (And.intro c1 (And.intro c2 (And.intro c3 (And.intro c4 (And.intro c5 c6)))))
      rw [h1, h2, h3, h4, h5, h6] at HE
      clear hst0 st0 hp1 hp2 hp3 hp4 hp5 hp6 h1 h2 h3 h4 h5 h6 c1 c2 c3 c4 c5 c6
      obtain ⟨vs0, hvs⟩ : ∃ vs, vs = don ++ (ksL (8 - i)).map zeroV := ⟨_, rfl⟩
      have HV0 : Aside0 (vs0 = don ++ (.string ⟨#[]⟩ :: .int .i64 0 :: .int .i64 0 :: .int .i64 0 :: .int .i64 0 :: .int .i64 0 :: (ksL (8 - (i + 1))).map zeroV)) := ⟨by rw [hvs, show 8 - i = (8 - (i + 1)) + 1 from by omega, ksL_succ]; rfl⟩
      have hvl : vs0.length = 48 := by rw [hvs, List.length_append, HI.out.1.len, List.length_map, ksL_len]; omega
      have HL0 : Aside0 (vs0.length = 48) := ⟨hvl⟩
      have HS0 : Aside0 (RW rb st wr ∧ Cs (w.heap.size + 1) 90 vs0 wr ∧ Cs w.heap.size 90 ((ksL 8).map zeroV) wr ∧ Fr (fun i => i = rb) w wr) := ⟨HI.out.1.rw_, by rw [hvs]; exact HI.out.1.cs, HI.out.2, HI.out.1.fr⟩
      have HIL : Aside0 (don.length = i * 6) := ⟨HI.out.1.len⟩
      clear hvs hvl
      have hwr : w.heap.size + 1 < wr.heap.size := HS0.out.2.1.lt
      go_wp2_with (fail)
      refine (HC.out.1 _ HS0.out.1).mono ?_
      rintro e w1 ⟨rfl, q1, f1⟩
      have HA1 : Aside0 (RW rb p1.1 w1 ∧ Cs (w.heap.size + 1) 90 vs0 w1 ∧ Cs w.heap.size 90 ((ksL 8).map zeroV) w1 ∧ Fr (fun i => i = rb) w w1) := ⟨q1, f1.blk HS0.out.2.1 (by omega), f1.blk HS0.out.2.2.1 (by omega), HS0.out.2.2.2.trans f1 fun i hi => .inl hi⟩
      clear q1 f1 HS0
      obtain ⟨old0, ho0⟩ : ∃ old, w1.cell? ⟨w.heap.size + 1, i * 6, none⟩ = some old := ⟨_, by rw [HA1.out.2.1.cell]; exact List.getElem?_eq_getElem (by rw [HL0.out]; omega)⟩
      have hz0 : w1.frozen? ⟨w.heap.size + 1, i * 6, none⟩ = false := HA1.out.2.1.frozen _
      obtain ⟨vs1, hvs⟩ : ∃ vs, vs = vs0.set (i * 6) (.string x1) := ⟨_, rfl⟩
      have HV1 := Aside0.mk hvs
      have HL1 : Aside0 (vs1.length = 48) := ⟨by rw [hvs, List.length_set, HL0.out]⟩
      have HS1 : Aside0 (RW rb p1.1 (w1.setCell ⟨w.heap.size + 1, i * 6, none⟩ (.string x1)) ∧ Cs (w.heap.size + 1) 90 vs1 (w1.setCell ⟨w.heap.size + 1, i * 6, none⟩ (.string x1)) ∧ Cs w.heap.size 90 ((ksL 8).map zeroV) (w1.setCell ⟨w.heap.size + 1, i * 6, none⟩ (.string x1)) ∧ Fr (fun i => i = rb) w (w1.setCell ⟨w.heap.size + 1, i * 6, none⟩ (.string x1))) := ⟨HA1.out.1.other (Below.heap_setCell _ _ _ _ (show rb ≠ w.heap.size + 1 by omega)), by rw [hvs]; exact HA1.out.2.1.set _ _, HA1.out.2.2.1.other _ _ (show w.heap.size + 1 ≠ w.heap.size by omega), HA1.out.2.2.2.set _ _ (.inr (show w.heap.size ≤ w.heap.size + 1 by omega))⟩
      clear hvs HA1
      go_wp2_with (fail)
      refine (HC.out.2.1 _ (HS1.out.1)).mono ?_
      rintro e w2 ⟨rfl, q1, f1⟩
      have HA2 : Aside0 (RW rb p2.1 w2 ∧ Cs (w.heap.size + 1) 90 vs1 w2 ∧ Cs w.heap.size 90 ((ksL 8).map zeroV) w2 ∧ Fr (fun i => i = rb) w w2) := ⟨q1, f1.blk HS1.out.2.1 (by omega), f1.blk HS1.out.2.2.1 (by omega), HS1.out.2.2.2.trans f1 fun i hi => .inl hi⟩
      clear q1 f1 HS1
      obtain ⟨old1, ho1⟩ : ∃ old, w2.cell? ⟨w.heap.size + 1, i * 6 + 1, none⟩ = some old := ⟨_, by rw [HA2.out.2.1.cell]; exact List.getElem?_eq_getElem (by rw [HL1.out]; omega)⟩
      have hz1 : w2.frozen? ⟨w.heap.size + 1, i * 6 + 1, none⟩ = false := HA2.out.2.1.frozen _
      obtain ⟨vs2, hvs⟩ : ∃ vs, vs = vs1.set (i * 6 + 1) (.int .i64 x2) := ⟨_, rfl⟩
      have HV2 := Aside0.mk hvs
      have HL2 : Aside0 (vs2.length = 48) := ⟨by rw [hvs, List.length_set, HL1.out]⟩
      have HS2 : Aside0 (RW rb p2.1 (w2.setCell ⟨w.heap.size + 1, i * 6 + 1, none⟩ (.int .i64 x2)) ∧ Cs (w.heap.size + 1) 90 vs2 (w2.setCell ⟨w.heap.size + 1, i * 6 + 1, none⟩ (.int .i64 x2)) ∧ Cs w.heap.size 90 ((ksL 8).map zeroV) (w2.setCell ⟨w.heap.size + 1, i * 6 + 1, none⟩ (.int .i64 x2)) ∧ Fr (fun i => i = rb) w (w2.setCell ⟨w.heap.size + 1, i * 6 + 1, none⟩ (.int .i64 x2))) := ⟨HA2.out.1.other (Below.heap_setCell _ _ _ _ (show rb ≠ w.heap.size + 1 by omega)), by rw [hvs]; exact HA2.out.2.1.set _ _, HA2.out.2.2.1.other _ _ (show w.heap.size + 1 ≠ w.heap.size by omega), HA2.out.2.2.2.set _ _ (.inr (show w.heap.size ≤ w.heap.size + 1 by omega))⟩
      clear hvs HA2
      go_wp2_with (fail)
      refine (HC.out.2.2.1 _ (HS2.out.1)).mono ?_
      rintro e w3 ⟨rfl, q1, f1⟩
      have HA3 : Aside0 (RW rb p3.1 w3 ∧ Cs (w.heap.size + 1) 90 vs2 w3 ∧ Cs w.heap.size 90 ((ksL 8).map zeroV) w3 ∧ Fr (fun i => i = rb) w w3) := ⟨q1, f1.blk HS2.out.2.1 (by omega), f1.blk HS2.out.2.2.1 (by omega), HS2.out.2.2.2.trans f1 fun i hi => .inl hi⟩
      clear q1 f1 HS2
      obtain ⟨old2, ho2⟩ : ∃ old, w3.cell? ⟨w.heap.size + 1, i * 6 + 2, none⟩ = some old := ⟨_, by rw [HA3.out.2.1.cell]; exact List.getElem?_eq_getElem (by rw [HL2.out]; omega)⟩
      have hz2 : w3.frozen? ⟨w.heap.size + 1, i * 6 + 2, none⟩ = false := HA3.out.2.1.frozen _
      obtain ⟨vs3, hvs⟩ : ∃ vs, vs = vs2.set (i * 6 + 2) (.int .i64 x3) := ⟨_, rfl⟩
      have HV3 := Aside0.mk hvs
      have HL3 : Aside0 (vs3.length = 48) := ⟨by rw [hvs, List.length_set, HL2.out]⟩
      have HS3 : Aside0 (RW rb p3.1 (w3.setCell ⟨w.heap.size + 1, i * 6 + 2, none⟩ (.int .i64 x3)) ∧ Cs (w.heap.size + 1) 90 vs3 (w3.setCell ⟨w.heap.size + 1, i * 6 + 2, none⟩ (.int .i64 x3)) ∧ Cs w.heap.size 90 ((ksL 8).map zeroV) (w3.setCell ⟨w.heap.size + 1, i * 6 + 2, none⟩ (.int .i64 x3)) ∧ Fr (fun i => i = rb) w (w3.setCell ⟨w.heap.size + 1, i * 6 + 2, none⟩ (.int .i64 x3))) := ⟨HA3.out.1.other (Below.heap_setCell _ _ _ _ (show rb ≠ w.heap.size + 1 by omega)), by rw [hvs]; exact HA3.out.2.1.set _ _, HA3.out.2.2.1.other _ _ (show w.heap.size + 1 ≠ w.heap.size by omega), HA3.out.2.2.2.set _ _ (.inr (show w.heap.size ≤ w.heap.size + 1 by omega))⟩
      clear hvs HA3
      go_wp2_with (fail)
      refine (HC.out.2.2.2.1 _ (HS3.out.1)).mono ?_
      rintro e w4 ⟨rfl, q1, f1⟩
      have HA4 : Aside0 (RW rb p4.1 w4 ∧ Cs (w.heap.size + 1) 90 vs3 w4 ∧ Cs w.heap.size 90 ((ksL 8).map zeroV) w4 ∧ Fr (fun i => i = rb) w w4) := ⟨q1, f1.blk HS3.out.2.1 (by omega), f1.blk HS3.out.2.2.1 (by omega), HS3.out.2.2.2.trans f1 fun i hi => .inl hi⟩
      clear q1 f1 HS3
      obtain ⟨old3, ho3⟩ : ∃ old, w4.cell? ⟨w.heap.size + 1, i * 6 + 3, none⟩ = some old := ⟨_, by rw [HA4.out.2.1.cell]; exact List.getElem?_eq_getElem (by rw [HL3.out]; omega)⟩
      have hz3 : w4.frozen? ⟨w.heap.size + 1, i * 6 + 3, none⟩ = false := HA4.out.2.1.frozen _
      obtain ⟨vs4, hvs⟩ : ∃ vs, vs = vs3.set (i * 6 + 3) (.int .i64 x4) := ⟨_, rfl⟩
      have HV4 := Aside0.mk hvs
      have HL4 : Aside0 (vs4.length = 48) := ⟨by rw [hvs, List.length_set, HL3.out]⟩
      have HS4 : Aside0 (RW rb p4.1 (w4.setCell ⟨w.heap.size + 1, i * 6 + 3, none⟩ (.int .i64 x4)) ∧ Cs (w.heap.size + 1) 90 vs4 (w4.setCell ⟨w.heap.size + 1, i * 6 + 3, none⟩ (.int .i64 x4)) ∧ Cs w.heap.size 90 ((ksL 8).map zeroV) (w4.setCell ⟨w.heap.size + 1, i * 6 + 3, none⟩ (.int .i64 x4)) ∧ Fr (fun i => i = rb) w (w4.setCell ⟨w.heap.size + 1, i * 6 + 3, none⟩ (.int .i64 x4))) := ⟨HA4.out.1.other (Below.heap_setCell _ _ _ _ (show rb ≠ w.heap.size + 1 by omega)), by rw [hvs]; exact HA4.out.2.1.set _ _, HA4.out.2.2.1.other _ _ (show w.heap.size + 1 ≠ w.heap.size by omega), HA4.out.2.2.2.set _ _ (.inr (show w.heap.size ≤ w.heap.size + 1 by omega))⟩
      clear hvs HA4
      go_wp2_with (fail)
      refine (HC.out.2.2.2.2.1 _ (HS4.out.1)).mono ?_
      rintro e w5 ⟨rfl, q1, f1⟩
      have HA5 : Aside0 (RW rb p5.1 w5 ∧ Cs (w.heap.size + 1) 90 vs4 w5 ∧ Cs w.heap.size 90 ((ksL 8).map zeroV) w5 ∧ Fr (fun i => i = rb) w w5) := ⟨q1, f1.blk HS4.out.2.1 (by omega), f1.blk HS4.out.2.2.1 (by omega), HS4.out.2.2.2.trans f1 fun i hi => .inl hi⟩
      clear q1 f1 HS4
      obtain ⟨old4, ho4⟩ : ∃ old, w5.cell? ⟨w.heap.size + 1, i * 6 + 4, none⟩ = some old := ⟨_, by rw [HA5.out.2.1.cell]; exact List.getElem?_eq_getElem (by rw [HL4.out]; omega)⟩
      have hz4 : w5.frozen? ⟨w.heap.size + 1, i * 6 + 4, none⟩ = false := HA5.out.2.1.frozen _
      obtain ⟨vs5, hvs⟩ : ∃ vs, vs = vs4.set (i * 6 + 4) (.int .i64 x5) := ⟨_, rfl⟩
      have HV5 := Aside0.mk hvs
      have HL5 : Aside0 (vs5.length = 48) := ⟨by rw [hvs, List.length_set, HL4.out]⟩
      have HS5 : Aside0 (RW rb p5.1 (w5.setCell ⟨w.heap.size + 1, i * 6 + 4, none⟩ (.int .i64 x5)) ∧ Cs (w.heap.size + 1) 90 vs5 (w5.setCell ⟨w.heap.size + 1, i * 6 + 4, none⟩ (.int .i64 x5)) ∧ Cs w.heap.size 90 ((ksL 8).map zeroV) (w5.setCell ⟨w.heap.size + 1, i * 6 + 4, none⟩ (.int .i64 x5)) ∧ Fr (fun i => i = rb) w (w5.setCell ⟨w.heap.size + 1, i * 6 + 4, none⟩ (.int .i64 x5))) := ⟨HA5.out.1.other (Below.heap_setCell _ _ _ _ (show rb ≠ w.heap.size + 1 by omega)), by rw [hvs]; exact HA5.out.2.1.set _ _, HA5.out.2.2.1.other _ _ (show w.heap.size + 1 ≠ w.heap.size by omega), HA5.out.2.2.2.set _ _ (.inr (show w.heap.size ≤ w.heap.size + 1 by omega))⟩
      clear hvs HA5
      go_wp2_with (fail)
      refine (HC.out.2.2.2.2.2 _ (HS5.out.1)).mono ?_
      rintro e w6 ⟨rfl, q1, f1⟩
      have HA6 : Aside0 (RW rb p6.1 w6 ∧ Cs (w.heap.size + 1) 90 vs5 w6 ∧ Cs w.heap.size 90 ((ksL 8).map zeroV) w6 ∧ Fr (fun i => i = rb) w w6) := ⟨q1, f1.blk HS5.out.2.1 (by omega), f1.blk HS5.out.2.2.1 (by omega), HS5.out.2.2.2.trans f1 fun i hi => .inl hi⟩
      clear q1 f1 HS5
      obtain ⟨old5, ho5⟩ : ∃ old, w6.cell? ⟨w.heap.size + 1, i * 6 + 5, none⟩ = some old := ⟨_, by rw [HA6.out.2.1.cell]; exact List.getElem?_eq_getElem (by rw [HL5.out]; omega)⟩
      have hz5 : w6.frozen? ⟨w.heap.size + 1, i * 6 + 5, none⟩ = false := HA6.out.2.1.frozen _
      obtain ⟨vs6, hvs⟩ : ∃ vs, vs = vs5.set (i * 6 + 5) (.int .i64 x6) := ⟨_, rfl⟩
      have HV6 := Aside0.mk hvs
      have HL6 : Aside0 (vs6.length = 48) := ⟨by rw [hvs, List.length_set, HL5.out]⟩
      have HS6 : Aside0 (RW rb p6.1 (w6.setCell ⟨w.heap.size + 1, i * 6 + 5, none⟩ (.int .i64 x6)) ∧ Cs (w.heap.size + 1) 90 vs6 (w6.setCell ⟨w.heap.size + 1, i * 6 + 5, none⟩ (.int .i64 x6)) ∧ Cs w.heap.size 90 ((ksL 8).map zeroV) (w6.setCell ⟨w.heap.size + 1, i * 6 + 5, none⟩ (.int .i64 x6)) ∧ Fr (fun i => i = rb) w (w6.setCell ⟨w.heap.size + 1, i * 6 + 5, none⟩ (.int .i64 x6))) := ⟨HA6.out.1.other (Below.heap_setCell _ _ _ _ (show rb ≠ w.heap.size + 1 by omega)), by rw [hvs]; exact HA6.out.2.1.set _ _, HA6.out.2.2.1.other _ _ (show w.heap.size + 1 ≠ w.heap.size by omega), HA6.out.2.2.2.set _ _ (.inr (show w.heap.size ≤ w.heap.size + 1 by omega))⟩
      clear hvs HA6
      go_wp2
      go_roundw
      case rel =>
        have hv : vs6 = (don ++ [.string x1, .int .i64 x2, .int .i64 x3, .int .i64 x4, .int .i64 x5, .int .i64 x6]) ++ (ksL (8 - (i + 1))).map zeroV := by
          have hl := HIL.out
          rw [HV6.out, HV5.out, HV4.out, HV3.out, HV2.out, HV1.out, HV0.out]
          exact set6 don _ _ _ _ _ _ _ _ _ _ _ _ _ _ hl
        have ha : rds (ksL (8 - i)) st ((ksL (8 - i)).map zeroV) = ((rds (ksL (8 - (i + 1))) p6.1 ((ksL (8 - (i + 1))).map zeroV)).1, [.string x1, .int .i64 x2, .int .i64 x3, .int .i64 x4, .int .i64 x5, .int .i64 x6] ++ (rds (ksL (8 - (i + 1))) p6.1 ((ksL (8 - (i + 1))).map zeroV)).2) := by
          rw [show 8 - i = (8 - (i + 1)) + 1 from by omega, ksL_succ, List.map_append, rds_append _ _ _ _ _ (by simp), HE.out]
        refine ⟨i + 1, p6.1, don ++ [.string x1, .int .i64 x2, .int .i64 x3, .int .i64 x4, .int .i64 x5, .int .i64 x6], by omega, by go_num, ⟨⟨by rw [List.length_append, HIL.out]; simp; omega, ?_, HS6.out.1, by rw [← hv]; exact HS6.out.2.1, HS6.out.2.2.2⟩, HS6.out.2.2.1⟩⟩
        rw [HI.out.1.all, ha]
        simp
      case measure => simp [intOf]; omega
    · obtain rfl : i = 8 := by omega
      have HD : Aside0 (rds (ksL 8) s ((ksL 8).map zeroV) = (st, don)) := ⟨by rw [HI.out.1.all]; simp [ksL, rds_nil]⟩
      have HF : Aside0 (Fits (ksL 8) don) := ⟨by have := fits_rds (ksL 8) s _ (fits_zero (ksL 8)); rw [HD.out] at this; exact this⟩
      have HL : Aside0 (don.length = 48) := ⟨by rw [HI.out.1.len]⟩
      have HCB : Aside0 (Cs (w.heap.size + 1) 90 don wr) := ⟨by have := HI.out.1.cs; simpa [ksL] using this⟩
      have HRG : Aside0 (wr.rangeAt (w.heap.size + 1) 0 don) := ⟨fun j v hv => by rw [Nat.zero_add, HCB.out.cell]; exact hv⟩
      have HTH : Aside0 (wr.there w.heap.size 0 don.toArray.size) := ⟨fun j hj => ⟨by rw [Nat.zero_add, HI.out.2.cell, List.getElem?_eq_getElem (by rw [List.length_map, ksL_len]; have := HL.out; simp at hj; omega)]; rfl, HI.out.2.frozen _⟩⟩
      have HSZ : Aside0 ((Try.prog.info? 90).map (·.size) = some 48) := ⟨by kernel_rfl⟩
      have HONE : Aside0 (don.toArray.all (·.oneCell') = true) := ⟨all_oneCell_toArray (fits_one HF.out)⟩
      go_wp2_with (first
        | ((with_reducible refine wpList_load_mid (op := ⟨some 39, _, _, _, _, _⟩) ?a1 90 (.tmp 3) ?a2 (w.heap.size + 1) 0 ?a3 don _ HRG.out Try.underlying90 ?a4 ?a5 ?a6); (case a1 => rfl); (case a2 => rfl); (case a3 => rfl); (case a4 => rfl); (case a5 => (rw [HSZ.out, HL.out])))
        | ((with_reducible refine wpList_store_mid (op := ⟨none, Op.store _ (.tmp 2) (.tmp 39), _, _, _, _⟩) ?b1 90 (.tmp 2) (.tmp 39) ?b2 w.heap.size 0 don.toArray ?b3 ?b4 HTH.out ?b5 HONE.out ?b6); (case b1 => rfl); (case b2 => rfl); (case b3 => rfl); (case b4 => rfl); (case b5 => (rw [HSZ.out]; simp [HL.out]))))
      obtain ⟨Wf, hWf⟩ : ∃ Wf, Wf = wr.setCells w.heap.size 0 don := ⟨_, rfl⟩
      have hld : (loadVar 90 ⟨w.heap.size, 0, none⟩).run Try.prog Wf = .ok (.agg don.toArray) Wf := by
        rw [hWf]
        exact run_loadVar_mid _ _ _ _ _ _ (World.rangeAt_setCells_same wr w.heap.size 0 don (by simpa using HTH.out)) Try.underlying90 rfl (by rw [HSZ.out, HL.out])
      (try simp only [List.toList_toArray])
      rw [← hWf]
      refine bodyPost_ret (v := .agg don.toArray) ?hr rfl ?_
      case hr => simp [results, Try.results28, hld, Act.put, asAddr]
      rw [HD.out]
      have hWb : ∀ i, i ≠ w.heap.size → Wf.heap[i]? = wr.heap[i]? := fun i hi => by rw [hWf]; exact heap_setCells w.heap.size don 0 wr i hi
      have hWs : Wf.os = wr.os ∧ Wf.tape = wr.tape ∧ Wf.output = wr.output ∧ Wf.heap.size = wr.heap.size := by rw [hWf]; exact same_setCells w.heap.size don 0 wr
      refine ⟨rfl, HI.out.1.rw_.other (hWb rb (by omega)), ⟨hWs.1.trans HI.out.1.fr.os, hWs.2.1.trans HI.out.1.fr.tape, hWs.2.2.1.trans HI.out.1.fr.output, by rw [hWs.2.2.2]; exact HI.out.1.fr.size, fun i hi hn => (hWb i (by omega)).trans (HI.out.1.fr.block i hi hn)⟩⟩
end Go.Proofs.Ytgdoodeibcfcjaa.Wire
