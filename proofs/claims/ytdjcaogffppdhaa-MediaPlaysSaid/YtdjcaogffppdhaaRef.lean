/- The reference's media: what stands in memory, and what its functions do to it. -/
import Derived.Test.YtdjcaogffppdhaaMedW
import Derived.Test.YtdjcaogffppdhaaSumPure
import Derived.Below
import Derived.Deep.AppendLies
import Derived.Laws.OwnMore
set_option linter.unusedVariables false
set_option linter.unusedSimpArgs false
namespace Go.Proofs.Ytdjcaogffppdhaa.Ref
open Go.RowKit Go.Proofs.Ytdjcaogffppdhaa.SumPure Go.Proofs.YtdjcaogffppdhaaW.PrintWords Go.Proofs.YtdjcaogffppdhaaW.PrintLast Go.Proofs.YtdjcaogffppdhaaW.PrintMore
attribute [local go_sem] max2_int min2_int max_two min_two
abbrev Item := Int × Int × ByteArray
structure R where
  L : List Item
  armed : Bool
  left : Int
  off : Bool
  writes : Int
def R.new : R := ⟨[], false, 0, false, 0⟩
def cellsOf : List Item → List Value
  | [] => []
  | x :: l => .int .i64 x.1 :: .int .i64 x.2.1 :: .string x.2.2 :: cellsOf l
theorem cellsOf_len (l : List Item) : (cellsOf l).length = l.length * 3 := by
  induction l with
  | nil => rfl
  | cons x l ih => simp only [cellsOf, List.length_cons, ih]; omega
theorem cellsOf_append (a b : List Item) : cellsOf (a ++ b) = cellsOf a ++ cellsOf b := by
  induction a with
  | nil => rfl
  | cons x l ih => simp [cellsOf, ih]
theorem cellsOf_at (l : List Item) : ∀ (i : Nat) (x : Item), l[i]? = some x → (cellsOf l)[i * 3]? = some (.int .i64 x.1) ∧ (cellsOf l)[i * 3 + 1]? = some (.int .i64 x.2.1) ∧ (cellsOf l)[i * 3 + 2]? = some (.string x.2.2) := by
  induction l with
  | nil => intro i x h; simp at h
  | cons y l ih =>
    intro i x h
    cases i with
    | zero => simp at h; subst h; exact ⟨rfl, rfl, rfl⟩
    | succ i =>
      have := ih i x (by simpa using h)
      rw [show (i + 1) * 3 = i * 3 + 1 + 1 + 1 from by omega, show i * 3 + 1 + 1 + 1 + 1 = i * 3 + 1 + 1 + 1 + 1 from rfl]
      simp only [cellsOf, List.getElem?_cons_succ]
      exact this
theorem cellsOf_set (l : List Item) : ∀ (i : Nat) (x : Item) (s : ByteArray), l[i]? = some x → (cellsOf l).set (i * 3 + 2) (.string s) = cellsOf (l.set i (x.1, x.2.1, s)) := by
  induction l with
  | nil => intro i x s h; simp at h
  | cons y l ih =>
    intro i x s h
    cases i with
    | zero => simp at h; subst h; rfl
    | succ i =>
      have := ih i x s (by simpa using h)
      rw [show (i + 1) * 3 + 2 = i * 3 + 2 + 1 + 1 + 1 from by omega]
      simp only [cellsOf, List.set_cons_succ, this]
structure Rep (w : World) (b : Nat) (v : Value) (r : R) (n : Nat) : Prop where
  hb : w.heap[b]? = some (.cells #[v, .bool r.armed, .int .i64 r.left, .bool r.off, .int .i64 r.writes] 75 (0, 0))
  row : w.ownsRow 0 77 3 v r.L.length (cellsOf r.L)
  l0 : -(n : Int) ≤ r.left
  l1 : r.left ≤ 9223372036854775807
  w0 : 0 ≤ r.writes
  w1 : r.writes ≤ n
  len : r.L.length ≤ n
theorem Rep.apart {w : World} {b : Nat} {v : Value} {r : R} {n : Nat} (h : Rep w b v r n) : v.ownBlock ≠ some b := by
  rcases h.row.2 with ⟨e, _⟩ | ⟨g, cap, cur, e, _, hg, _⟩
  · rw [e]; simp [Value.ownBlock]
  · rw [e]
    simp only [Value.ownBlock]
    intro e'
    cases e'
    rw [h.hb] at hg
    cases hg
def IsRef (w : World) (own : Nat → Prop) (b : Nat) (r : R) (n : Nat) : Prop := ∃ v, Rep w b v r n ∧ own b ∧ ∀ g, v.ownBlock = some g → own g
theorem Rep.lt {w : World} {b : Nat} {v : Value} {r : R} {n : Nat} (h : Rep w b v r n) : b < w.heap.size ∧ ∀ g, v.ownBlock = some g → g < w.heap.size :=
  ⟨(Array.getElem?_eq_some_iff.1 h.hb).1, fun g hg => (h.row.lt g hg).2⟩
theorem Rep.same {w w' : World} {b : Nat} {v : Value} {r : R} {n : Nat} (h : Rep w b v r n) (e : ∀ i, (i = b ∨ v.ownBlock = some i) → w'.heap[i]? = w.heap[i]?) : Rep w' b v r n where
  hb := (e b (.inl rfl)).trans h.hb
  row := by
    refine ⟨h.row.1, ?_⟩
    rcases h.row.2 with ho | ⟨g, cap, cur, hv, hg, hgh, rest⟩
    · exact .inl ho
    · exact .inr ⟨g, cap, cur, hv, hg, (e g (.inr (by rw [hv]; rfl))).trans hgh, rest⟩
  l0 := h.l0
  l1 := h.l1
  w0 := h.w0
  w1 := h.w1
  len := h.len
theorem IsRef.same {w w' : World} {own : Nat → Prop} {b : Nat} {r : R} {n : Nat} (h : IsRef w own b r n) (e : ∀ i, i < w.heap.size → own i → w'.heap[i]? = w.heap[i]?) : IsRef w' own b r n := by
  obtain ⟨v, h1, h2, h3⟩ := h
  refine ⟨v, h1.same fun i hi => ?_, h2, h3⟩
  rcases hi with rfl | hi
  · exact e _ h1.lt.1 h2
  · exact e i (h1.lt.2 i hi) (h3 i hi)
theorem IsRef.below {w w' : World} {own : Nat → Prop} {b : Nat} {r : R} {n : Nat} (h : IsRef w own b r n) (k : Below w.heap.size w w') : IsRef w' own b r n := h.same fun i hi _ => k.block i hi
theorem IsRef.restrict {w : World} {own : Nat → Prop} {b : Nat} {r : R} {n : Nat} (h : IsRef w own b r n) : IsRef w (fun i => own i ∧ i < w.heap.size) b r n := by
  obtain ⟨v, h1, h2, h3⟩ := h
  exact ⟨v, h1, ⟨h2, h1.lt.1⟩, fun g hg => ⟨h3 g hg, h1.lt.2 g hg⟩⟩
theorem Rep.mono {w : World} {b : Nat} {v : Value} {r : R} {n n' : Nat} (h : Rep w b v r n) (k : n ≤ n') : Rep w b v r n' :=
  ⟨h.hb, h.row, by have := h.l0; omega, h.l1, h.w0, by have := h.w1; omega, by have := h.len; omega⟩
theorem IsRef.mono {w : World} {own : Nat → Prop} {b : Nat} {r : R} {n n' : Nat} (h : IsRef w own b r n) (k : n ≤ n') : IsRef w own b r n' := by
  obtain ⟨v, h1, h2⟩ := h
  exact ⟨v, h1.mono k, h2⟩
set_option maxHeartbeats 4000000 in
set_option maxRecDepth 100000 in
theorem New_calls (w : World) : Calls Try.prog 17 #[] w fun e w' => ∃ b, e = .returned (.pointer (some ⟨b, 0, none⟩)) ∧ IsRef w' (fun i => w.heap.size ≤ i) b R.new 0 ∧ Below w.heap.size w w' := by
  have hu := Try.underlying75
  go_enter Try.func17, Try.ntmps17
  go_wp2
  go_ret
  refine ⟨_, rfl, ⟨.slice none 0 0, ⟨heap_alloc_new _ _, ⟨rfl, .inl ⟨rfl, rfl⟩⟩, by decide, by decide, by decide, by decide, by decide⟩, Nat.le_refl _, fun g h => by simp [Value.ownBlock] at h⟩, (Below.refl _ w).alloc (Nat.le_refl _) _⟩
/-- The header turns, the row stays. -/
theorem Rep.re {w w' : World} {b : Nat} {v : Value} {r r' : R} {n n' : Nat} (h : Rep w b v r n)
    (hb' : w'.heap[b]? = some (.cells #[v, .bool r'.armed, .int .i64 r'.left, .bool r'.off, .int .i64 r'.writes] 75 (0, 0))) (he : ∀ i, i ≠ b → w'.heap[i]? = w.heap[i]?)
    (hL : r'.L = r.L) (hn : n ≤ n') (l0 : -(n' : Int) ≤ r'.left) (l1 : r'.left ≤ 9223372036854775807) (w0 : 0 ≤ r'.writes) (w1 : r'.writes ≤ n') : Rep w' b v r' n' where
  hb := hb'
  row := by
    have ha := h.apart
    rw [hL]
    refine ⟨h.row.1, ?_⟩
    rcases h.row.2 with ho | ⟨g, cap, cur, hv, hg, hgh, rest⟩
    · exact .inl ho
    · exact .inr ⟨g, cap, cur, hv, hg, (he g (fun e => ha (by rw [hv, ← e]; rfl))).trans hgh, rest⟩
  l0 := l0
  l1 := l1
  w0 := w0
  w1 := w1
  len := by rw [hL]; have := h.len; omega
/-! ### Arm, On, Writes, right, act -/
def R.arm (r : R) (x : Int) : R := { r with armed := true, left := if x < 0 then 0 else x }
def R.on (r : R) : R := { r with off := false, armed := false }
theorem frame_two {own : Nat → Prop} {w : World} {b : Nat} (h : own b) (i i' : Nat) (v v' : Value) : Med.Frame own w ((w.setCell ⟨b, i, none⟩ v).setCell ⟨b, i', none⟩ v') :=
  ⟨rfl, rfl, rfl, by simp, fun j _ hj => by rw [Med.heap_set_ne (fun e => hj (by rw [e]; exact h)), Med.heap_set_ne (fun e => hj (by rw [e]; exact h))]⟩
theorem frame_one {own : Nat → Prop} {w : World} {b : Nat} (h : own b) (i : Nat) (v : Value) : Med.Frame own w (w.setCell ⟨b, i, none⟩ v) :=
  ⟨rfl, rfl, rfl, by simp, fun j _ hj => Med.heap_set_ne (fun e => hj (by rw [e]; exact h)) i v⟩
set_option maxHeartbeats 8000000 in
set_option maxRecDepth 100000 in
theorem arm_calls {w : World} {own : Nat → Prop} {b : Nat} {r : R} {n : Nat} (h : IsRef w own b r n) (x : Int) (hx : x ≤ 9223372036854775807) :
    Calls Try.prog 23 #[.pointer (some ⟨b, 0, none⟩), .int .i64 x] w fun e w' => e = .returned (.tuple #[]) ∧ IsRef w' own b (r.arm x) n ∧ Med.Frame own w w' := by
  obtain ⟨v, h1, h2, h3⟩ := h
  have hu := Try.underlying75
  have c1 : w.cell? ⟨b, 1, none⟩ = some (.bool r.armed) := by have := h1.hb; simp [World.cell?, this]
  have c2 : w.cell? ⟨b, 2, none⟩ = some (.int .i64 r.left) := by have := h1.hb; simp [World.cell?, this]
  have cf : ∀ o, w.frozen? ⟨b, o, none⟩ = false := fun o => by have := h1.hb; simp [World.frozen?, this]
  have H1 := Aside0.mk h1
  have H3 : Aside0 (own b ∧ ∀ g, v.ownBlock = some g → own g) := ⟨h2, h3⟩
  clear h1 h2 h3
  rcases Decidable.em (x < 0) with hx0 | hx0
  · go_enter Try.func23, Try.ntmps23
    go_wp2
    go_end0
    refine ⟨rfl, ⟨v, H1.out.re (r' := r.arm x) (by rw [Med.heap_set (Med.heap_set H1.out.hb 1 _) 2 _]; simp [R.arm, hx0]) (fun i hi => by rw [Med.heap_set_ne hi, Med.heap_set_ne hi]) rfl (Nat.le_refl _) ?_ ?_ H1.out.w0 H1.out.w1, H3.out⟩, frame_two H3.out.1 _ _ _ _⟩
    · show -(n : Int) ≤ (if x < 0 then 0 else x); rw [if_pos hx0]; omega
    · show (if x < 0 then 0 else x) ≤ _; rw [if_pos hx0]; omega
  · go_enter Try.func23, Try.ntmps23
    go_wp2
    go_end0
    refine ⟨rfl, ⟨v, H1.out.re (r' := r.arm x) (by rw [Med.heap_set (Med.heap_set H1.out.hb 1 _) 2 _]; simp [R.arm, show ¬ x < 0 by omega]) (fun i hi => by rw [Med.heap_set_ne hi, Med.heap_set_ne hi]) rfl (Nat.le_refl _) ?_ ?_ H1.out.w0 H1.out.w1, H3.out⟩, frame_two H3.out.1 _ _ _ _⟩
    · show -(n : Int) ≤ (if x < 0 then 0 else x); rw [if_neg (by omega)]; omega
    · show (if x < 0 then 0 else x) ≤ _; rw [if_neg (by omega)]; omega
set_option maxHeartbeats 8000000 in
set_option maxRecDepth 100000 in
theorem on_calls {w : World} {own : Nat → Prop} {b : Nat} {r : R} {n : Nat} (h : IsRef w own b r n) :
    Calls Try.prog 25 #[.pointer (some ⟨b, 0, none⟩)] w fun e w' => e = .returned (.tuple #[]) ∧ IsRef w' own b r.on n ∧ Med.Frame own w w' := by
  obtain ⟨v, h1, h2, h3⟩ := h
  have hu := Try.underlying75
  have c1 : w.cell? ⟨b, 1, none⟩ = some (.bool r.armed) := by have := h1.hb; simp [World.cell?, this]
  have c3 : w.cell? ⟨b, 3, none⟩ = some (.bool r.off) := by have := h1.hb; simp [World.cell?, this]
  have cf : ∀ o, w.frozen? ⟨b, o, none⟩ = false := fun o => by have := h1.hb; simp [World.frozen?, this]
  have H1 := Aside0.mk h1
  have H3 : Aside0 (own b ∧ ∀ g, v.ownBlock = some g → own g) := ⟨h2, h3⟩
  clear h1 h2 h3
  go_enter Try.func25, Try.ntmps25
  go_wp2
  go_end0
  exact ⟨rfl, ⟨v, H1.out.re (r' := r.on) (by rw [Med.heap_set (Med.heap_set H1.out.hb 3 _) 1 _]; rfl) (fun i hi => by rw [Med.heap_set_ne hi, Med.heap_set_ne hi]) rfl (Nat.le_refl _) H1.out.l0 H1.out.l1 H1.out.w0 H1.out.w1, H3.out⟩, frame_two H3.out.1 _ _ _ _⟩
set_option maxHeartbeats 8000000 in
set_option maxRecDepth 100000 in
theorem writes_calls {w : World} {own : Nat → Prop} {b : Nat} {r : R} {n : Nat} (h : IsRef w own b r n) :
    Calls Try.prog 30 #[.pointer (some ⟨b, 0, none⟩)] w fun e w' => e = .returned (.int .i64 r.writes) ∧ w' = w := by
  obtain ⟨v, h1, h2, h3⟩ := h
  have hu := Try.underlying75
  have c4 : w.cell? ⟨b, 4, none⟩ = some (.int .i64 r.writes) := by have := h1.hb; simp [World.cell?, this]
  clear h1 h2 h3
  go_enter Try.func30, Try.ntmps30
  go_wp2
  go_ret
  exact ⟨rfl, rfl⟩
def right (f a : Int) : Bool := decide (0 ≤ f ∧ f < 1048576 ∧ 0 ≤ a ∧ a < 65536)
set_option maxHeartbeats 8000000 in
set_option maxRecDepth 100000 in
theorem right_calls (f a : Int) (w : World) : Calls Try.prog 41 #[.int .i64 f, .int .i64 a] w fun e w' => e = .returned (.bool (right f a)) ∧ w = w' := by
  obtain ⟨q, hq⟩ : ∃ q, q = right f a := ⟨_, rfl⟩
  rw [← hq]
  have HQ := Aside0.mk hq
  clear hq
  go_enter Try.func41, Try.ntmps41
  by_cases h1 : 0 ≤ f
  · by_cases h2 : f < 1048576
    · by_cases h3 : 0 ≤ a
      · go_wp2
        go_ret
        exact ⟨congrArg (fun x => Ending.returned (.bool x)) (by rw [HQ.out]; unfold right; simp [h1, h2, h3]), rfl⟩
      · go_wp2
        go_ret
        exact ⟨congrArg (fun x => Ending.returned (.bool x)) (by rw [HQ.out]; unfold right; simp; omega), rfl⟩
    · go_wp2
      go_ret
      exact ⟨congrArg (fun x => Ending.returned (.bool x)) (by rw [HQ.out]; unfold right; simp; omega), rfl⟩
  · go_wp2
    go_ret
    exact ⟨congrArg (fun x => Ending.returned (.bool x)) (by rw [HQ.out]; unfold right; simp; omega), rfl⟩
def R.act (r : R) : R × Bool := if r.armed = true ∧ r.left ≤ 0 then ({ r with off := true }, false) else ({ r with left := r.left - 1, writes := r.writes + 1 }, true)
set_option maxHeartbeats 8000000 in
set_option maxRecDepth 100000 in
theorem act_calls {w : World} {own : Nat → Prop} {b : Nat} {r : R} {n : Nat} (h : IsRef w own b r n) (hn : n < 1000000000) :
    Calls Try.prog 42 #[.pointer (some ⟨b, 0, none⟩)] w fun e w' => e = .returned (.bool r.act.2) ∧ IsRef w' own b r.act.1 (n + 1) ∧ Med.Frame own w w' := by
  obtain ⟨v, h1, h2, h3⟩ := h
  have hu := Try.underlying75
  have c1 : w.cell? ⟨b, 1, none⟩ = some (.bool r.armed) := by have := h1.hb; simp [World.cell?, this]
  have c2 : w.cell? ⟨b, 2, none⟩ = some (.int .i64 r.left) := by have := h1.hb; simp [World.cell?, this]
  have c3 : w.cell? ⟨b, 3, none⟩ = some (.bool r.off) := by have := h1.hb; simp [World.cell?, this]
  have c4 : w.cell? ⟨b, 4, none⟩ = some (.int .i64 r.writes) := by have := h1.hb; simp [World.cell?, this]
  have cf : ∀ o, w.frozen? ⟨b, o, none⟩ = false := fun o => by have := h1.hb; simp [World.frozen?, this]
  have l0 := h1.l0
  have l1 := h1.l1
  have w0 := h1.w0
  have w1 := h1.w1
  have H1 := Aside0.mk h1
  have H3 : Aside0 (own b ∧ ∀ g, v.ownBlock = some g → own g) := ⟨h2, h3⟩
  clear h1 h2 h3
  have go1 : r.act = ({ r with left := r.left - 1, writes := r.writes + 1 }, true) → Aside0 (∀ w' : World, w' = (w.setCell ⟨b, 2, none⟩ (.int .i64 (r.left - 1))).setCell ⟨b, 4, none⟩ (.int .i64 (r.writes + 1)) → IsRef w' own b r.act.1 (n + 1) ∧ r.act.2 = true ∧ Med.Frame own w w') := fun e => ⟨fun w' hw' => by
    rw [e]
    subst hw'
    exact ⟨⟨v, H1.out.re (r' := { r with left := r.left - 1, writes := r.writes + 1 }) (by rw [Med.heap_set (Med.heap_set H1.out.hb 2 _) 4 _]; rfl) (fun i hi => by rw [Med.heap_set_ne hi, Med.heap_set_ne hi]) rfl (by omega) (by show -((n + 1 : Nat) : Int) ≤ r.left - 1; omega) (by show r.left - 1 ≤ _; omega) (by show 0 ≤ r.writes + 1; omega) (by show r.writes + 1 ≤ _; omega), H3.out⟩, rfl, frame_two H3.out.1 _ _ _ _⟩⟩
  cases ha : r.armed with
  | true =>
    rw [ha] at c1
    by_cases hl : r.left ≤ 0
    · have e : r.act = ({ r with off := true }, false) := by unfold R.act; rw [if_pos ⟨ha, hl⟩]
      rw [e]
      clear go1
      have HE := Aside0.mk ha
      clear e ha
      go_enter Try.func42, Try.ntmps42
      go_wp2
      go_ret
      exact ⟨rfl, ⟨v, H1.out.re (r' := { r with off := true }) (by rw [Med.heap_set H1.out.hb 3 _]; rfl) (fun i hi => by rw [Med.heap_set_ne hi]) rfl (by omega) (by show -((n + 1 : Nat) : Int) ≤ r.left; omega) l1 w0 (by show r.writes ≤ _; omega), H3.out⟩, frame_one H3.out.1 _ _⟩
    · have G := go1 (by unfold R.act; rw [if_neg (fun h => hl h.2)])
      clear go1 ha
      generalize r.act = q at *
      go_enter Try.func42, Try.ntmps42
      go_wp2
      go_ret
      obtain ⟨g1, g2, g3⟩ := G.out _ rfl
      exact ⟨congrArg (fun x => Ending.returned (.bool x)) g2.symm, g1, g3⟩
  | false =>
    rw [ha] at c1
    have G := go1 (by unfold R.act; rw [if_neg (fun h => by rw [ha] at h; cases h.1)])
    clear go1 ha
    generalize r.act = q at *
    go_enter Try.func42, Try.ntmps42
    go_wp2
    go_ret
    obtain ⟨g1, g2, g3⟩ := G.out _ rfl
    exact ⟨congrArg (fun x => Ending.returned (.bool x)) g2.symm, g1, g3⟩
end Go.Proofs.Ytdjcaogffppdhaa.Ref
