/- Of one claim's parts: Ref, RefW, RefPure, RefLay, Ref06, RefSlot. -/
import Derived.Test.YtojehachhfcfaaaMedW
import Derived.Test.YtojehachhfcfaaaSumPure
import Derived.Below
import Derived.Deep.AppendLies
import Derived.Laws.OwnMore
import Derived.Test.YtojehachhfcfaaaSlLaw
import Derived.Test.YtojehachhfcfaaaSlPure
import Derived.Test.YtojehachhfcfaaaBldS
import Derived.Deep.QuietTactic
import Derived.BigQuiet
import Derived.IntWalk
import Derived.Lib.AppendStr
import Derived.Test.YtojehachhfcfaaaBldK
import Derived.Deep.DeepCutAuto
import Derived.Deep.RegionHeld3
set_option linter.unusedVariables false
set_option linter.unusedSimpArgs false
namespace Go.Proofs.Ytojehachhfcfaaa.Ref
open Go.RowKit Go.Proofs.Ytojehachhfcfaaa.SumPure Go.Proofs.YtojehachhfcfaaaW.PrintWords Go.Proofs.YtojehachhfcfaaaW.PrintLast Go.Proofs.YtojehachhfcfaaaW.PrintMore
attribute [local go_sem] max2_int min2_int max_two min_two
abbrev Item := Int × Int × ByteArray
structure R where
  L : List Item
  armed : Bool
  left : Int
  off : Bool
  writes : Int
def R.new : R := ⟨[], false, 0, false, 0⟩
def cellsOf : List Item → List Value
  | [] => []
  | x :: l => .int .i64 x.1 :: .int .i64 x.2.1 :: .string x.2.2 :: cellsOf l
theorem cellsOf_len (l : List Item) : (cellsOf l).length = l.length * 3 := by
  induction l with
  | nil => rfl
  | cons x l ih => simp only [cellsOf, List.length_cons, ih]; omega
theorem cellsOf_append (a b : List Item) : cellsOf (a ++ b) = cellsOf a ++ cellsOf b := by
  induction a with
  | nil => rfl
  | cons x l ih => simp [cellsOf, ih]
theorem cellsOf_at (l : List Item) : ∀ (i : Nat) (x : Item), l[i]? = some x → (cellsOf l)[i * 3]? = some (.int .i64 x.1) ∧ (cellsOf l)[i * 3 + 1]? = some (.int .i64 x.2.1) ∧ (cellsOf l)[i * 3 + 2]? = some (.string x.2.2) := by
  induction l with
  | nil => intro i x h; simp at h
  | cons y l ih =>
    intro i x h
    cases i with
    | zero => simp at h; subst h; exact ⟨rfl, rfl, rfl⟩
    | succ i =>
      have := ih i x (by simpa using h)
      rw [show (i + 1) * 3 = i * 3 + 1 + 1 + 1 from by omega, show i * 3 + 1 + 1 + 1 + 1 = i * 3 + 1 + 1 + 1 + 1 from rfl]
      simp only [cellsOf, List.getElem?_cons_succ]
      exact this
theorem cellsOf_set (l : List Item) : ∀ (i : Nat) (x : Item) (s : ByteArray), l[i]? = some x → (cellsOf l).set (i * 3 + 2) (.string s) = cellsOf (l.set i (x.1, x.2.1, s)) := by
  induction l with
  | nil => intro i x s h; simp at h
  | cons y l ih =>
    intro i x s h
    cases i with
    | zero => simp at h; subst h; rfl
    | succ i =>
      have := ih i x s (by simpa using h)
      rw [show (i + 1) * 3 + 2 = i * 3 + 2 + 1 + 1 + 1 from by omega]
      simp only [cellsOf, List.set_cons_succ, this]
structure Rep (w : World) (b : Nat) (v : Value) (r : R) (n : Nat) : Prop where
  hb : w.heap[b]? = some (.cells #[v, .bool r.armed, .int .i64 r.left, .bool r.off, .int .i64 r.writes] 92 (0, 0))
  row : w.ownsRow 0 101 3 v r.L.length (cellsOf r.L)
  l0 : -(n : Int) ≤ r.left
  l1 : r.left ≤ 9223372036854775807
  w0 : 0 ≤ r.writes
  w1 : r.writes ≤ n
  len : r.L.length ≤ n
theorem Rep.apart {w : World} {b : Nat} {v : Value} {r : R} {n : Nat} (h : Rep w b v r n) : v.ownBlock ≠ some b := by
  rcases h.row.2 with ⟨e, _⟩ | ⟨g, cap, cur, e, _, hg, _⟩
  · rw [e]; simp [Value.ownBlock]
  · rw [e]
    simp only [Value.ownBlock]
    intro e'
    cases e'
    rw [h.hb] at hg
    cases hg
def IsRef (w : World) (own : Nat → Prop) (b : Nat) (r : R) (n : Nat) : Prop := ∃ v, Rep w b v r n ∧ own b ∧ ∀ g, v.ownBlock = some g → own g
theorem Rep.lt {w : World} {b : Nat} {v : Value} {r : R} {n : Nat} (h : Rep w b v r n) : b < w.heap.size ∧ ∀ g, v.ownBlock = some g → g < w.heap.size :=
  ⟨(Array.getElem?_eq_some_iff.1 h.hb).1, fun g hg => (h.row.lt g hg).2⟩
theorem Rep.same {w w' : World} {b : Nat} {v : Value} {r : R} {n : Nat} (h : Rep w b v r n) (e : ∀ i, (i = b ∨ v.ownBlock = some i) → w'.heap[i]? = w.heap[i]?) : Rep w' b v r n where
  hb := (e b (.inl rfl)).trans h.hb
  row := by
    refine ⟨h.row.1, ?_⟩
    rcases h.row.2 with ho | ⟨g, cap, cur, hv, hg, hgh, rest⟩
    · exact .inl ho
    · exact .inr ⟨g, cap, cur, hv, hg, (e g (.inr (by rw [hv]; rfl))).trans hgh, rest⟩
  l0 := h.l0
  l1 := h.l1
  w0 := h.w0
  w1 := h.w1
  len := h.len
theorem IsRef.same {w w' : World} {own : Nat → Prop} {b : Nat} {r : R} {n : Nat} (h : IsRef w own b r n) (e : ∀ i, i < w.heap.size → own i → w'.heap[i]? = w.heap[i]?) : IsRef w' own b r n := by
  obtain ⟨v, h1, h2, h3⟩ := h
  refine ⟨v, h1.same fun i hi => ?_, h2, h3⟩
  rcases hi with rfl | hi
  · exact e _ h1.lt.1 h2
  · exact e i (h1.lt.2 i hi) (h3 i hi)
theorem IsRef.below {w w' : World} {own : Nat → Prop} {b : Nat} {r : R} {n : Nat} (h : IsRef w own b r n) (k : Below w.heap.size w w') : IsRef w' own b r n := h.same fun i hi _ => k.block i hi
theorem IsRef.restrict {w : World} {own : Nat → Prop} {b : Nat} {r : R} {n : Nat} (h : IsRef w own b r n) : IsRef w (fun i => own i ∧ i < w.heap.size) b r n := by
  obtain ⟨v, h1, h2, h3⟩ := h
  exact ⟨v, h1, ⟨h2, h1.lt.1⟩, fun g hg => ⟨h3 g hg, h1.lt.2 g hg⟩⟩
theorem Rep.mono {w : World} {b : Nat} {v : Value} {r : R} {n n' : Nat} (h : Rep w b v r n) (k : n ≤ n') : Rep w b v r n' :=
  ⟨h.hb, h.row, by have := h.l0; omega, h.l1, h.w0, by have := h.w1; omega, by have := h.len; omega⟩
theorem IsRef.mono {w : World} {own : Nat → Prop} {b : Nat} {r : R} {n n' : Nat} (h : IsRef w own b r n) (k : n ≤ n') : IsRef w own b r n' := by
  obtain ⟨v, h1, h2⟩ := h
  exact ⟨v, h1.mono k, h2⟩
set_option maxHeartbeats 4000000 in
set_option maxRecDepth 100000 in
theorem New_calls (w : World) : Calls Try.prog 29 #[] w fun e w' => ∃ b, e = .returned (.pointer (some ⟨b, 0, none⟩)) ∧ IsRef w' (fun i => w.heap.size ≤ i) b R.new 0 ∧ Below w.heap.size w w' := by
  have hu := Try.underlying92
  go_enter Try.func29, Try.ntmps29
  go_wp2
  go_ret
  refine ⟨_, rfl, ⟨.slice none 0 0, ⟨heap_alloc_new _ _, ⟨rfl, .inl ⟨rfl, rfl⟩⟩, by decide, by decide, by decide, by decide, by decide⟩, Nat.le_refl _, fun g h => by simp [Value.ownBlock] at h⟩, (Below.refl _ w).alloc (Nat.le_refl _) _⟩
/-- The header turns, the row stays. -/
theorem Rep.re {w w' : World} {b : Nat} {v : Value} {r r' : R} {n n' : Nat} (h : Rep w b v r n)
    (hb' : w'.heap[b]? = some (.cells #[v, .bool r'.armed, .int .i64 r'.left, .bool r'.off, .int .i64 r'.writes] 92 (0, 0))) (he : ∀ i, i ≠ b → w'.heap[i]? = w.heap[i]?)
    (hL : r'.L = r.L) (hn : n ≤ n') (l0 : -(n' : Int) ≤ r'.left) (l1 : r'.left ≤ 9223372036854775807) (w0 : 0 ≤ r'.writes) (w1 : r'.writes ≤ n') : Rep w' b v r' n' where
  hb := hb'
  row := by
    have ha := h.apart
    rw [hL]
    refine ⟨h.row.1, ?_⟩
    rcases h.row.2 with ho | ⟨g, cap, cur, hv, hg, hgh, rest⟩
    · exact .inl ho
    · exact .inr ⟨g, cap, cur, hv, hg, (he g (fun e => ha (by rw [hv, ← e]; rfl))).trans hgh, rest⟩
  l0 := l0
  l1 := l1
  w0 := w0
  w1 := w1
  len := by rw [hL]; have := h.len; omega
/-! ### Arm, On, Writes, right, act -/
def R.arm (r : R) (x : Int) : R := { r with armed := true, left := if x < 0 then 0 else x }
def R.on (r : R) : R := { r with off := false, armed := false }
theorem frame_two {own : Nat → Prop} {w : World} {b : Nat} (h : own b) (i i' : Nat) (v v' : Value) : Med.Frame own w ((w.setCell ⟨b, i, none⟩ v).setCell ⟨b, i', none⟩ v') :=
  ⟨rfl, rfl, rfl, by simp, fun j _ hj => by rw [Med.heap_set_ne (fun e => hj (by rw [e]; exact h)), Med.heap_set_ne (fun e => hj (by rw [e]; exact h))]⟩
theorem frame_one {own : Nat → Prop} {w : World} {b : Nat} (h : own b) (i : Nat) (v : Value) : Med.Frame own w (w.setCell ⟨b, i, none⟩ v) :=
  ⟨rfl, rfl, rfl, by simp, fun j _ hj => Med.heap_set_ne (fun e => hj (by rw [e]; exact h)) i v⟩
set_option maxHeartbeats 8000000 in
set_option maxRecDepth 100000 in
theorem arm_calls {w : World} {own : Nat → Prop} {b : Nat} {r : R} {n : Nat} (h : IsRef w own b r n) (x : Int) (hx : x ≤ 9223372036854775807) :
    Calls Try.prog 31 #[.pointer (some ⟨b, 0, none⟩), .int .i64 x] w fun e w' => e = .returned (.tuple #[]) ∧ IsRef w' own b (r.arm x) n ∧ Med.Frame own w w' := by
  obtain ⟨v, h1, h2, h3⟩ := h
  have hu := Try.underlying92
  have c1 : w.cell? ⟨b, 1, none⟩ = some (.bool r.armed) := by have := h1.hb; simp [World.cell?, this]
  have c2 : w.cell? ⟨b, 2, none⟩ = some (.int .i64 r.left) := by have := h1.hb; simp [World.cell?, this]
  have cf : ∀ o, w.frozen? ⟨b, o, none⟩ = false := fun o => by have := h1.hb; simp [World.frozen?, this]
  have H1 := Aside0.mk h1
  have H3 : Aside0 (own b ∧ ∀ g, v.ownBlock = some g → own g) := ⟨h2, h3⟩
  clear h1 h2 h3
  rcases Decidable.em (x < 0) with hx0 | hx0
  · go_enter Try.func31, Try.ntmps31
    go_wp2
    go_end0
    refine ⟨rfl, ⟨v, H1.out.re (r' := r.arm x) (by rw [Med.heap_set (Med.heap_set H1.out.hb 1 _) 2 _]; simp [R.arm, hx0]) (fun i hi => by rw [Med.heap_set_ne hi, Med.heap_set_ne hi]) rfl (Nat.le_refl _) ?_ ?_ H1.out.w0 H1.out.w1, H3.out⟩, frame_two H3.out.1 _ _ _ _⟩
    · show -(n : Int) ≤ (if x < 0 then 0 else x); rw [if_pos hx0]; omega
    · show (if x < 0 then 0 else x) ≤ _; rw [if_pos hx0]; omega
  · go_enter Try.func31, Try.ntmps31
    go_wp2
    go_end0
    refine ⟨rfl, ⟨v, H1.out.re (r' := r.arm x) (by rw [Med.heap_set (Med.heap_set H1.out.hb 1 _) 2 _]; simp [R.arm, show ¬ x < 0 by omega]) (fun i hi => by rw [Med.heap_set_ne hi, Med.heap_set_ne hi]) rfl (Nat.le_refl _) ?_ ?_ H1.out.w0 H1.out.w1, H3.out⟩, frame_two H3.out.1 _ _ _ _⟩
    · show -(n : Int) ≤ (if x < 0 then 0 else x); rw [if_neg (by omega)]; omega
    · show (if x < 0 then 0 else x) ≤ _; rw [if_neg (by omega)]; omega
set_option maxHeartbeats 8000000 in
set_option maxRecDepth 100000 in
theorem on_calls {w : World} {own : Nat → Prop} {b : Nat} {r : R} {n : Nat} (h : IsRef w own b r n) :
    Calls Try.prog 32 #[.pointer (some ⟨b, 0, none⟩)] w fun e w' => e = .returned (.tuple #[]) ∧ IsRef w' own b r.on n ∧ Med.Frame own w w' := by
  obtain ⟨v, h1, h2, h3⟩ := h
  have hu := Try.underlying92
  have c1 : w.cell? ⟨b, 1, none⟩ = some (.bool r.armed) := by have := h1.hb; simp [World.cell?, this]
  have c3 : w.cell? ⟨b, 3, none⟩ = some (.bool r.off) := by have := h1.hb; simp [World.cell?, this]
  have cf : ∀ o, w.frozen? ⟨b, o, none⟩ = false := fun o => by have := h1.hb; simp [World.frozen?, this]
  have H1 := Aside0.mk h1
  have H3 : Aside0 (own b ∧ ∀ g, v.ownBlock = some g → own g) := ⟨h2, h3⟩
  clear h1 h2 h3
  go_enter Try.func32, Try.ntmps32
  go_wp2
  go_end0
  exact ⟨rfl, ⟨v, H1.out.re (r' := r.on) (by rw [Med.heap_set (Med.heap_set H1.out.hb 3 _) 1 _]; rfl) (fun i hi => by rw [Med.heap_set_ne hi, Med.heap_set_ne hi]) rfl (Nat.le_refl _) H1.out.l0 H1.out.l1 H1.out.w0 H1.out.w1, H3.out⟩, frame_two H3.out.1 _ _ _ _⟩
set_option maxHeartbeats 8000000 in
set_option maxRecDepth 100000 in
theorem writes_calls {w : World} {own : Nat → Prop} {b : Nat} {r : R} {n : Nat} (h : IsRef w own b r n) :
    Calls Try.prog 38 #[.pointer (some ⟨b, 0, none⟩)] w fun e w' => e = .returned (.int .i64 r.writes) ∧ w' = w := by
  obtain ⟨v, h1, h2, h3⟩ := h
  have hu := Try.underlying92
  have c4 : w.cell? ⟨b, 4, none⟩ = some (.int .i64 r.writes) := by have := h1.hb; simp [World.cell?, this]
  clear h1 h2 h3
  go_enter Try.func38, Try.ntmps38
  go_wp2
  go_ret
  exact ⟨rfl, rfl⟩
def right (f a : Int) : Bool := decide (0 ≤ f ∧ f < 1048576 ∧ 0 ≤ a ∧ a < 65536)
set_option maxHeartbeats 8000000 in
set_option maxRecDepth 100000 in
theorem right_calls (f a : Int) (w : World) : Calls Try.prog 56 #[.int .i64 f, .int .i64 a] w fun e w' => e = .returned (.bool (right f a)) ∧ w = w' := by
  obtain ⟨q, hq⟩ : ∃ q, q = right f a := ⟨_, rfl⟩
  rw [← hq]
  have HQ := Aside0.mk hq
  clear hq
  go_enter Try.func56, Try.ntmps56
  by_cases h1 : 0 ≤ f
  · by_cases h2 : f < 1048576
    · by_cases h3 : 0 ≤ a
      · go_wp2
        go_ret
        exact ⟨congrArg (fun x => Ending.returned (.bool x)) (by rw [HQ.out]; unfold right; simp [h1, h2, h3]), rfl⟩
      · go_wp2
        go_ret
        exact ⟨congrArg (fun x => Ending.returned (.bool x)) (by rw [HQ.out]; unfold right; simp; omega), rfl⟩
    · go_wp2
      go_ret
      exact ⟨congrArg (fun x => Ending.returned (.bool x)) (by rw [HQ.out]; unfold right; simp; omega), rfl⟩
  · go_wp2
    go_ret
    exact ⟨congrArg (fun x => Ending.returned (.bool x)) (by rw [HQ.out]; unfold right; simp; omega), rfl⟩
def R.act (r : R) : R × Bool := if r.armed = true ∧ r.left ≤ 0 then ({ r with off := true }, false) else ({ r with left := r.left - 1, writes := r.writes + 1 }, true)
set_option maxHeartbeats 8000000 in
set_option maxRecDepth 100000 in
theorem act_calls {w : World} {own : Nat → Prop} {b : Nat} {r : R} {n : Nat} (h : IsRef w own b r n) (hn : n < 1000000000) :
    Calls Try.prog 57 #[.pointer (some ⟨b, 0, none⟩)] w fun e w' => e = .returned (.bool r.act.2) ∧ IsRef w' own b r.act.1 (n + 1) ∧ Med.Frame own w w' := by
  obtain ⟨v, h1, h2, h3⟩ := h
  have hu := Try.underlying92
  have c1 : w.cell? ⟨b, 1, none⟩ = some (.bool r.armed) := by have := h1.hb; simp [World.cell?, this]
  have c2 : w.cell? ⟨b, 2, none⟩ = some (.int .i64 r.left) := by have := h1.hb; simp [World.cell?, this]
  have c3 : w.cell? ⟨b, 3, none⟩ = some (.bool r.off) := by have := h1.hb; simp [World.cell?, this]
  have c4 : w.cell? ⟨b, 4, none⟩ = some (.int .i64 r.writes) := by have := h1.hb; simp [World.cell?, this]
  have cf : ∀ o, w.frozen? ⟨b, o, none⟩ = false := fun o => by have := h1.hb; simp [World.frozen?, this]
  have l0 := h1.l0
  have l1 := h1.l1
  have w0 := h1.w0
  have w1 := h1.w1
  have H1 := Aside0.mk h1
  have H3 : Aside0 (own b ∧ ∀ g, v.ownBlock = some g → own g) := ⟨h2, h3⟩
  clear h1 h2 h3
  have go1 : r.act = ({ r with left := r.left - 1, writes := r.writes + 1 }, true) → Aside0 (∀ w' : World, w' = (w.setCell ⟨b, 2, none⟩ (.int .i64 (r.left - 1))).setCell ⟨b, 4, none⟩ (.int .i64 (r.writes + 1)) → IsRef w' own b r.act.1 (n + 1) ∧ r.act.2 = true ∧ Med.Frame own w w') := fun e => ⟨fun w' hw' => by
    rw [e]
    subst hw'
    exact ⟨⟨v, H1.out.re (r' := { r with left := r.left - 1, writes := r.writes + 1 }) (by rw [Med.heap_set (Med.heap_set H1.out.hb 2 _) 4 _]; rfl) (fun i hi => by rw [Med.heap_set_ne hi, Med.heap_set_ne hi]) rfl (by omega) (by show -((n + 1 : Nat) : Int) ≤ r.left - 1; omega) (by show r.left - 1 ≤ _; omega) (by show 0 ≤ r.writes + 1; omega) (by show r.writes + 1 ≤ _; omega), H3.out⟩, rfl, frame_two H3.out.1 _ _ _ _⟩⟩
  cases ha : r.armed with
  | true =>
    rw [ha] at c1
    by_cases hl : r.left ≤ 0
    · have e : r.act = ({ r with off := true }, false) := by unfold R.act; rw [if_pos ⟨ha, hl⟩]
      rw [e]
      clear go1
      have HE := Aside0.mk ha
      clear e ha
      go_enter Try.func57, Try.ntmps57
      go_wp2
      go_ret
      exact ⟨rfl, ⟨v, H1.out.re (r' := { r with off := true }) (by rw [Med.heap_set H1.out.hb 3 _]; rfl) (fun i hi => by rw [Med.heap_set_ne hi]) rfl (by omega) (by show -((n + 1 : Nat) : Int) ≤ r.left; omega) l1 w0 (by show r.writes ≤ _; omega), H3.out⟩, frame_one H3.out.1 _ _⟩
    · have G := go1 (by unfold R.act; rw [if_neg (fun h => hl h.2)])
      clear go1 ha
      generalize r.act = q at *
      go_enter Try.func57, Try.ntmps57
      go_wp2
      go_ret
      obtain ⟨g1, g2, g3⟩ := G.out _ rfl
      exact ⟨congrArg (fun x => Ending.returned (.bool x)) g2.symm, g1, g3⟩
  | false =>
    rw [ha] at c1
    have G := go1 (by unfold R.act; rw [if_neg (fun h => by rw [ha] at h; cases h.1)])
    clear go1 ha
    generalize r.act = q at *
    go_enter Try.func57, Try.ntmps57
    go_wp2
    go_ret
    obtain ⟨g1, g2, g3⟩ := G.out _ rfl
    exact ⟨congrArg (fun x => Ending.returned (.bool x)) g2.symm, g1, g3⟩
end Go.Proofs.Ytojehachhfcfaaa.Ref
namespace Go.Proofs.Ytojehachhfcfaaa.Ref
open Go.RowKit Go.Proofs.Ytojehachhfcfaaa.SumPure Go.Proofs.YtojehachhfcfaaaW.PrintWords Go.Proofs.YtojehachhfcfaaaW.PrintLast Go.Proofs.YtojehachhfcfaaaW.PrintMore
def put (f a : Int) (s : ByteArray) : List Item → List Item
  | [] => [(f, a, s)]
  | x :: l => if x.1 = f ∧ x.2.1 = a then (x.1, x.2.1, s) :: l else x :: put f a s l
def seekR (f a : Int) : List Item → Option ByteArray
  | [] => none
  | x :: l => if x.1 = f ∧ x.2.1 = a then some x.2.2 else seekR f a l
theorem put_len (f a : Int) (s : ByteArray) (l : List Item) : (put f a s l).length ≤ l.length + 1 := by
  induction l with
  | nil => simp [put]
  | cons x l ih => unfold put; split <;> simp <;> omega
def R.write (r : R) (f a : Int) (s : ByteArray) : R × Int :=
  if r.off = true then (r, 40) else if right f a = false ∨ s.size ≠ 64 then (r, 42) else
    if r.act.2 = true then ({ r.act.1 with L := put f a s r.act.1.L }, 0) else (r.act.1, 40)
def R.read (r : R) (f a : Int) : ByteArray × Int :=
  if r.off = true then (⟨#[]⟩, 40) else if right f a = false then (⟨#[]⟩, 42) else match seekR f a r.L with
    | some s => (s, 0)
    | none => (⟨#[]⟩, 41)
/-- The items' cells, as a walk asks for them. -/
theorem Rep.at_ {w : World} {b : Nat} {v : Value} {r : R} {n : Nat} (h : Rep w b v r n) {i : Nat} (hi : i < r.L.length) : ∃ g c x, v = .slice (some ⟨g, 0, none⟩) r.L.length c ∧ r.L[i]? = some x ∧ g ≠ b ∧ r.L.length ≤ c ∧ c ≤ 9223372036854775807 ∧
    w.cell? ⟨g, i * 3, none⟩ = some (.int .i64 x.1) ∧ w.cell? ⟨g, i * 3 + 1, none⟩ = some (.int .i64 x.2.1) ∧ w.cell? ⟨g, i * 3 + 2, none⟩ = some (.string x.2.2) ∧ ∀ o, w.frozen? ⟨g, o, none⟩ = false := by
  have ha := h.apart
  have hr := h.row
  obtain ⟨g, c, hv, _, _⟩ := hr.form (by omega)
  subst hv
  have hx : r.L[i]? = some (r.L[i]'hi) := List.getElem?_eq_getElem hi
  obtain ⟨x0, x1, x2⟩ := cellsOf_at r.L i _ hx
  have hc : r.L.length ≤ c ∧ c ≤ 9223372036854775807 := by
    rcases hr.2 with ⟨e, _⟩ | ⟨g', cap, cur, e, _, _, h1, h2, _⟩
    · cases e
    · cases e
      exact ⟨h1, h2⟩
  refine ⟨g, c, _, rfl, hx, fun e => ha (by rw [e]; rfl), hc.1, hc.2, ?_, ?_, ?_, fun o => hr.frozenAt o⟩
  · rw [hr.cellAt (i * 3) (by omega)]; exact x0
  · rw [hr.cellAt (i * 3 + 1) (by omega)]; exact x1
  · rw [hr.cellAt (i * 3 + 2) (by omega)]; exact x2
theorem Rep.shape {w : World} {b : Nat} {v : Value} {r : R} {n : Nat} (h : Rep w b v r n) : ∃ A c, v = .slice A r.L.length c := by
  rcases h.row.2 with ⟨e, e'⟩ | ⟨g, cap, cur, e, _⟩
  · exact ⟨none, 0, by rw [e, e']⟩
  · exact ⟨_, _, e⟩
theorem Rep.stored {w : World} {b : Nat} {v : Value} {r : R} {n : Nat} (h : Rep w b v r n) {i g c : Nat} {x : Item} (hv : v = .slice (some ⟨g, 0, none⟩) r.L.length c) (hx : r.L[i]? = some x) (s : ByteArray) :
    Rep (w.setCell ⟨g, i * 3 + 2, none⟩ (.string s)) b v { r with L := r.L.set i (x.1, x.2.1, s) } n := by
  have hne : b ≠ g := fun e => h.apart (by rw [hv, e]; rfl)
  subst hv
  refine ⟨(Med.heap_set_ne hne _ _).trans h.hb, ?_, h.l0, h.l1, h.w0, h.w1, by have := h.len; simpa using this⟩
  have hs := h.row.stored (i * 3 + 2) (.string s)
  rw [cellsOf_set r.L i x s hx] at hs
  simpa using hs.1
theorem put_found (f a : Int) (s : ByteArray) {l : List Item} {i : Nat} {x : Item} (hx : l[i]? = some x) (h : put f a s l = l.take i ++ put f a s (l.drop i)) (he : x.1 = f ∧ x.2.1 = a) : put f a s l = l.set i (x.1, x.2.1, s) := by
  have hi : i < l.length := (List.getElem?_eq_some_iff.1 hx).1
  have hx' : l[i] = x := (List.getElem?_eq_some_iff.1 hx).2
  rw [h, List.drop_eq_getElem_cons hi, hx', put, if_pos he, List.set_eq_take_append_cons_drop, if_pos hi]
theorem put_skip (f a : Int) (s : ByteArray) {l : List Item} {i : Nat} {x : Item} (hx : l[i]? = some x) (h : put f a s l = l.take i ++ put f a s (l.drop i)) (he : ¬(x.1 = f ∧ x.2.1 = a)) : put f a s l = l.take (i + 1) ++ put f a s (l.drop (i + 1)) := by
  have hi : i < l.length := (List.getElem?_eq_some_iff.1 hx).1
  have hx' : l[i] = x := (List.getElem?_eq_some_iff.1 hx).2
  rw [h, List.drop_eq_getElem_cons hi, hx', put, if_neg he, List.take_succ_eq_append_getElem hi, hx']
  simp
theorem seek_found (f a : Int) {l : List Item} {i : Nat} {x : Item} (hx : l[i]? = some x) (h : seekR f a l = seekR f a (l.drop i)) (he : x.1 = f ∧ x.2.1 = a) : seekR f a l = some x.2.2 := by
  have hi : i < l.length := (List.getElem?_eq_some_iff.1 hx).1
  have hx' : l[i] = x := (List.getElem?_eq_some_iff.1 hx).2
  rw [h, List.drop_eq_getElem_cons hi, hx', seekR, if_pos he]
theorem seek_skip (f a : Int) {l : List Item} {i : Nat} {x : Item} (hx : l[i]? = some x) (h : seekR f a l = seekR f a (l.drop i)) (he : ¬(x.1 = f ∧ x.2.1 = a)) : seekR f a l = seekR f a (l.drop (i + 1)) := by
  have hi : i < l.length := (List.getElem?_eq_some_iff.1 hx).1
  have hx' : l[i] = x := (List.getElem?_eq_some_iff.1 hx).2
  rw [h, List.drop_eq_getElem_cons hi, hx', seekR, if_neg he]
/-- What a test on an item asks. -/
theorem test_cases (x : Item) (f a : Int) : (x.1 = f ∧ x.2.1 = a) ∨ (¬(x.1 = f ∧ x.2.1 = a) ∧ ((x.1 == f) = false ∨ (x.1 == f) = true ∧ (x.2.1 == a) = false)) := by
  by_cases h1 : x.1 = f
  · by_cases h2 : x.2.1 = a
    · exact .inl ⟨h1, h2⟩
    · exact .inr ⟨fun h => h2 h.2, .inr ⟨by simp [h1], by simp [h2]⟩⟩
  · exact .inr ⟨fun h => h1 h.1, .inl (by simp [h1])⟩
set_option maxHeartbeats 16000000 in
set_option maxRecDepth 100000 in
theorem read_calls {w : World} {own : Nat → Prop} {b : Nat} {r : R} {n : Nat} (h : IsRef w own b r n) (f a : Int) (hn : n < 1000000000) :
    Calls Try.prog 64 #[.pointer (some ⟨b, 0, none⟩), .int .i64 f, .int .i64 a] w fun e w' => e = .returned (.tuple #[.string (r.read f a).1, .int .i64 (r.read f a).2]) ∧ w' = w := by
  obtain ⟨v, h1, _, _⟩ := h
  have hu := Try.underlying92
  obtain ⟨A, c, rfl⟩ := h1.shape
  have c0 : w.cell? ⟨b, 0, none⟩ = some (.slice A r.L.length c) := by have := h1.hb; simp [World.cell?, this]
  have c3 : w.cell? ⟨b, 3, none⟩ = some (.bool r.off) := by have := h1.hb; simp [World.cell?, this]
  have hlen := h1.len
  have H1 := Aside0.mk h1
  obtain ⟨P, hP⟩ : ∃ P, P = r.read f a := ⟨_, rfl⟩
  rw [← hP]
  unfold R.read at hP
  have HP := Aside0.mk hP
  clear hP h1
  have hr := right_calls f a
  cases ho : r.off with
  | true =>
    rw [ho] at c3 HP
    have e : P = (⟨#[]⟩, 40) := by rw [HP.out, if_pos rfl]
    subst e
    clear ho
    go_enter Try.func64, Try.ntmps64
    go_wp2
    go_ret2
    exact ⟨rfl, rfl⟩
  | false =>
    rw [ho] at c3 HP
    clear ho
    cases hg : right f a with
    | false =>
      rw [hg] at hr HP
      have e : P = (⟨#[]⟩, 42) := by rw [HP.out]; simp
      subst e
      clear hg
      go_enter Try.func64, Try.ntmps64
      go_wp2_with (go_at_call 56; refine (hr _).mono ?_; rintro e w' ⟨rfl, rfl⟩)
      go_ret2
      exact ⟨rfl, rfl⟩
    | true =>
      rw [hg] at hr HP
      have HP2 : Aside0 (P = match seekR f a r.L with | some s => (s, 0) | none => (⟨#[]⟩, 41)) := ⟨by rw [HP.out]; simp⟩
      clear hg HP
      go_enter Try.func64, Try.ntmps64
      go_wp2_with (go_at_call 56; refine (hr _).mono ?_; rintro e w' ⟨rfl, rfl⟩)
      clear hr
      go_loop [8] (fun v8 => ∃ i : Nat, i ≤ r.L.length ∧ v8 = .int .i64 i ∧ Aside0 (seekR f a r.L = seekR f a (r.L.drop i))) (fun v8 => r.L.length - (intOf v8).toNat)
      case atStart => exact ⟨0, by omega, rfl, ⟨rfl⟩⟩
      case round =>
        obtain ⟨i, hi, rfl, HK⟩ := hrel
        by_cases hlt : i < r.L.length
        · obtain ⟨g, c', x, hv, hx, hne, hcl, hcm, d0, d1, d2, df⟩ := H1.out.at_ hlt
          cases hv
          have HX := Aside0.mk hx
          clear hx df
          rcases test_cases x f a with ⟨e1, e2⟩ | ⟨hno, ht⟩
          · have e : P = (x.2.2, 0) := by rw [HP2.out, seek_found f a HX.out HK.out ⟨e1, e2⟩]
            subst e
            have t1 : (x.1 == f) = true := by simp [e1]
            have t2 : (x.2.1 == a) = true := by simp [e2]
            clear e1 e2
            go_wp2
            go_ret2
            exact ⟨rfl, rfl⟩
          · have HN := Aside0.mk hno
            clear hno
            rcases ht with t1 | ⟨t1, t2⟩
            all_goals
              go_wp2
              go_round
              case rel => exact ⟨i + 1, by omega, by go_num, ⟨seek_skip f a HX.out HK.out HN.out⟩⟩
              case measure => simp [intOf]; omega
        · have e : P = (⟨#[]⟩, 41) := by rw [HP2.out, HK.out, List.drop_eq_nil_of_le (by omega)]; rfl
          subst e
          go_wp2
          go_ret2
          exact ⟨rfl, rfl⟩
theorem sectorInfo : (Try.prog.info? 101).map (fun i => (i.zero, i.size, i.bytes)) = some (some (.agg #[.int .i64 0, .int .i64 0, .string ⟨#[]⟩]), 3, 32) := by kernel_rfl
theorem infoParts3 {z : Option Value} {s b : Nat} {T : TypeId} (h : (Try.prog.info? T).map (fun i => (i.zero, i.size, i.bytes)) = some (z, s, b)) : ∃ i, Try.prog.info? T = some i ∧ i.zero = z ∧ i.size = s ∧ i.bytes = b := by
  cases hi : Try.prog.info? T with
  | none => rw [hi] at h; cases h
  | some i =>
    rw [hi] at h
    simp only [Option.map_some, Option.some.injEq, Prod.mk.injEq] at h
    exact ⟨i, rfl, h.1, h.2.1, h.2.2⟩
/-- What a call has made of a reference's media. -/
def Left (own : Nat → Prop) (b : Nat) (w : World) (r : R) (n : Nat) (w' : World) : Prop := ∃ own', IsRef w' own' b r n ∧ (∀ j, own' j → own j ∨ w.heap.size ≤ j) ∧ Med.Frame own w w'
theorem grown_b {w1 w2 : World} {o : Obj} {b : Nat} {v : Value} {r1 : R} {n : Nat} (h : Rep w1 b v r1 n) (hg : (w1.alloc o).grownBy w2 v.ownBlock) : w2.heap[b]? = some (.cells #[v, .bool r1.armed, .int .i64 r1.left, .bool r1.off, .int .i64 r1.writes] 92 (0, 0)) := by
  rw [hg.block b (by have := h.lt.1; simp; omega) (fun e => h.apart e.symm), Below.heap_alloc w1 o b h.lt.1]
  exact h.hb
theorem appended {own : Nat → Prop} {w1 w2 : World} {o : Obj} {b : Nat} {v : Value} {r1 : R} {n : Nat} {f a : Int} {s : ByteArray} {g cap : Nat} (h : Rep w1 b v r1 n)
    (ho : w2.ownsRow 0 101 3 (.slice (some ⟨g, 0, none⟩) (r1.L.length + 1) cap) (r1.L.length + 1) (cellsOf r1.L ++ [.int .i64 f, .int .i64 a, .string s])) (hg : (w1.alloc o).grownBy w2 v.ownBlock) (hw : own b ∧ ∀ g, v.ownBlock = some g → own g) :
    Rep (w2.setCell ⟨b, 0, none⟩ (.slice (some ⟨g, 0, none⟩) (r1.L.length + 1) cap)) b (.slice (some ⟨g, 0, none⟩) (r1.L.length + 1) cap) { r1 with L := r1.L ++ [(f, a, s)] } (n + 1) ∧ Med.Frame own w1 (w2.setCell ⟨b, 0, none⟩ (.slice (some ⟨g, 0, none⟩) (r1.L.length + 1) cap)) := by
  have hb2 := grown_b h hg
  have hne : g ≠ b := by
    intro e
    rcases ho.2 with ⟨e', _⟩ | ⟨g', cap', cur, e', _, hgh, _⟩
    · cases e'
    · cases e'
      rw [e, hb2] at hgh
      cases hgh
  refine ⟨⟨?_, ?_, by have := h.l0; show -((n + 1 : Nat) : Int) ≤ r1.left; omega, h.l1, h.w0, by have := h.w1; show r1.writes ≤ ((n + 1 : Nat) : Int); omega, by have := h.len; show (r1.L ++ [(f, a, s)]).length ≤ n + 1; simp; omega⟩, ?_⟩
  · rw [Med.heap_set hb2 0 _]; rfl
  · show World.ownsRow _ _ _ _ _ (r1.L ++ [(f, a, s)]).length (cellsOf (r1.L ++ [(f, a, s)]))
    rw [cellsOf_append, show (r1.L ++ [(f, a, s)]).length = r1.L.length + 1 from by simp]
    refine ⟨ho.1, ?_⟩
    rcases ho.2 with e | ⟨g', cap', cur, e', h1, hgh, rest⟩
    · exact .inl e
    · cases e'
      exact .inr ⟨g, cap, cur, rfl, h1, (Med.heap_set_ne hne _ _).trans hgh, rest⟩
  · have hs : (w1.alloc o).heap.size = w1.heap.size + 1 := by simp
    refine ⟨hg.os, hg.tape, hg.output, by have := hg.size; simp at this ⊢; omega, fun j hj hn => ?_⟩
    rw [Med.heap_set_ne (fun e => hn (by rw [e]; exact hw.1)), hg.block j (by omega) (fun e => hn (hw.2 j e.symm)), Below.heap_alloc w1 o j hj]
set_option maxHeartbeats 16000000 in
set_option maxRecDepth 100000 in
theorem write_calls {w : World} {own : Nat → Prop} {b : Nat} {r : R} {n : Nat} (h : IsRef w own b r n) (f a : Int) (s : ByteArray) (hs : s.size ≤ 9223372036854775807) (hn : n < 100000000) :
    Calls Try.prog 36 #[.pointer (some ⟨b, 0, none⟩), .int .i64 f, .int .i64 a, .string s] w fun e w' => e = .returned (.int .i64 (r.write f a s).2) ∧ Left own b w (r.write f a s).1 (n + 2) w' := by
  have hu := Try.underlying92
  have c3 : w.cell? ⟨b, 3, none⟩ = some (.bool r.off) := by obtain ⟨v, h1, _⟩ := h; have := h1.hb; simp [World.cell?, this]
  have H0 := Aside0.mk h
  obtain ⟨P, hP⟩ : ∃ P, P = r.write f a s := ⟨_, rfl⟩
  rw [← hP]
  unfold R.write at hP
  have HP := Aside0.mk hP
  clear hP h
  have hr := right_calls f a
  cases ho : r.off with
  | true =>
    rw [ho] at c3 HP
    have e : P = (r, 40) := by rw [HP.out, if_pos rfl]
    subst e
    clear ho
    go_enter Try.func36, Try.ntmps36
    go_wp2
    go_ret
    exact ⟨rfl, own, H0.out.mono (by omega), fun j hj => .inl hj, Med.Frame.refl _ _⟩
  | false =>
    rw [ho] at c3 HP
    clear ho
    cases hg : right f a with
    | false =>
      rw [hg] at hr HP
      have e : P = (r, 42) := by rw [HP.out]; simp
      subst e
      clear hg
      go_enter Try.func36, Try.ntmps36
      go_wp2_with (go_at_call 56; refine (hr _).mono ?_; rintro e w' ⟨rfl, rfl⟩)
      go_ret
      exact ⟨rfl, own, H0.out.mono (by omega), fun j hj => .inl hj, Med.Frame.refl _ _⟩
    | true =>
      rw [hg] at hr HP
      clear hg
      by_cases h64 : s.size = 64
      · have h64b : ((s.size : Int) != 64) = false := by rw [h64]; rfl
        have HP2 : Aside0 (P = if r.act.2 = true then ({ r.act.1 with L := put f a s r.act.1.L }, 0) else (r.act.1, 40)) := ⟨by rw [HP.out, if_neg (by simp), if_neg (by simp [h64])]⟩
        clear h64 HP
        have hac := act_calls H0.out (by omega)
        generalize r.act = q at *
        obtain ⟨r1, q2⟩ := q
        cases q2 with
        | false =>
          have e : P = (r1, 40) := by rw [HP2.out]; simp
          subst e
          go_enter Try.func36, Try.ntmps36
          go_wp2_with (first | (go_at_call 56; refine (hr _).mono ?_; rintro e w' ⟨rfl, rfl⟩) | (go_at_call 57; refine hac.mono ?_; rintro e w1 ⟨rfl, hq1, hq2⟩; have HQ := Aside0.mk (And.intro hq1 hq2); clear hq1 hq2))
          go_ret
          exact ⟨rfl, own, HQ.out.1.mono (by omega), fun j hj => .inl hj, HQ.out.2⟩
        | true =>
          have HP3 : Aside0 (P = ({ r1 with L := put f a s r1.L }, 0)) := ⟨by rw [HP2.out]; simp⟩
          clear HP2
          go_enter Try.func36, Try.ntmps36
          go_upto_region 7 with (first | (go_at_call 56; refine (hr _).mono ?_; rintro e w' ⟨rfl, rfl⟩) | (go_at_call 57; refine hac.mono ?_; rintro e w1 ⟨rfl, hq1, hq2⟩; have HQ := Aside0.mk (And.intro hq1 hq2); clear hq1 hq2))
          clear hac hr c3
          obtain ⟨v, h1, h2, h3⟩ := HQ.out.1
          obtain ⟨A, c, rfl⟩ := h1.shape
          have c0 : w1.cell? ⟨b, 0, none⟩ = some (.slice A r1.L.length c) := by have := h1.hb; simp [World.cell?, this]
          have hlen := h1.len
          have H1 := Aside0.mk h1
          have H3 : Aside0 (own b ∧ ∀ g, (Value.slice A r1.L.length c).ownBlock = some g → own g) := ⟨h2, h3⟩
          clear h1 h2 h3
          go_wp2
          go_loop [9] (fun v9 => ∃ i : Nat, i ≤ r1.L.length ∧ v9 = .int .i64 i ∧ Aside0 (put f a s r1.L = r1.L.take i ++ put f a s (r1.L.drop i))) (fun v9 => r1.L.length - (intOf v9).toNat)
          case atStart => exact ⟨0, by omega, rfl, ⟨by simp⟩⟩
          case round =>
            obtain ⟨i, hi, rfl, HK⟩ := hrel
            by_cases hlt : i < r1.L.length
            · obtain ⟨g, c', x, hv, hx, hne, hcl, hcm, d0, d1, d2, df⟩ := H1.out.at_ hlt
              cases hv
              have HX := Aside0.mk hx
              clear hx
              rcases test_cases x f a with ⟨e1, e2⟩ | ⟨hno, ht⟩
              · have e : P = ({ r1 with L := r1.L.set i (x.1, x.2.1, s) }, 0) := by rw [HP3.out, put_found f a s HX.out HK.out ⟨e1, e2⟩]
                subst e
                have t1 : (x.1 == f) = true := by simp [e1]
                have t2 : (x.2.1 == a) = true := by simp [e2]
                clear e1 e2
                go_wp2
                go_ret
                refine ⟨rfl, own, ⟨_, (H1.out.stored rfl HX.out s).mono (by omega), H3.out⟩, fun j hj => .inl hj, HQ.out.2.trans (frame_one (own := own) (H3.out.2 g rfl) _ _) (fun j hj => .inl hj)⟩
              · have HN := Aside0.mk hno
                clear hno
                rcases ht with t1 | ⟨t1, t2⟩
                all_goals
                  go_wp2
                  go_round
                  case rel => exact ⟨i + 1, by omega, by go_num, ⟨put_skip f a s HX.out HK.out HN.out⟩⟩
                  case measure => simp [intOf]; omega
            · have e : P = ({ r1 with L := r1.L ++ [(f, a, s)] }, 0) := by rw [HP3.out, HK.out, List.drop_eq_nil_of_le (by omega), List.take_of_length_le (by omega)]; rfl
              subst e
              obtain ⟨i0, hi0, hz0, hz1, hz2⟩ := infoParts3 sectorInfo
              have cb0 : ∀ o, w1.frozen? ⟨b, o, none⟩ = false := fun o => by have := H1.out.hb; simp [World.frozen?, this]
              have hsz1 := HQ.out.2.size
              go_wp2_with (at_builtin; refine wpList_append_lies _ rfl _ _ 90 rfl 0 101 i0 _ 3 32 Try.underlying90 hi0 hz0 hz1 hz2 rfl (by decide) _ _ _ rfl (H1.out.row.alloc _) ⟨w1.heap.size, 0, none⟩ 1 1 [.int .i64 f, .int .i64 a, .string s] rfl rfl ?hn ?h1 (by decide) ?h63 ?hb (Nat.zero_le _) (w1.heap.size + 1) (by simp) ?_)
              case h1 => exact ⟨rfl, rfl, rfl⟩
              case h63 => have : maxLen = 9223372036854775807 := rfl; omega
              case hb => omega
              intro g cap w2 hown2 hgrow2 hat2 hlt2
              have hfin := appended H1.out hown2 hgrow2 H3.out
              have HF := Aside0.mk hfin
              have hb2 : w2.heap[b]? = some (.cells #[.slice A r1.L.length c, .bool r1.armed, .int .i64 r1.left, .bool r1.off, .int .i64 r1.writes] 92 (0, 0)) := grown_b H1.out hgrow2
              have e0 : w2.cell? ⟨b, 0, none⟩ = some (.slice A r1.L.length c) := by simp [World.cell?, hb2]
              have ef : w2.frozen? ⟨b, 0, none⟩ = false := by simp [World.frozen?, hb2]
              have HAT : Aside0 ((Value.slice A r1.L.length c).ownBlock = some g ∨ g = w1.heap.size + 1) := ⟨hat2⟩
              clear hown2 hgrow2 hat2 hlt2 hfin hb2 cb0
              go_wp2
              go_ret
              refine ⟨rfl, fun j => own j ∨ w.heap.size ≤ j, ⟨_, HF.out.1, .inl H3.out.1, fun k hk => ?_⟩, fun j hj => hj, HQ.out.2.trans HF.out.2 (fun j hj => .inl hj)⟩
              have hk' : g = k := by simpa [Value.ownBlock] using hk
              rcases HAT.out with h4 | h4
              · exact .inl (H3.out.2 k (by rw [← hk']; exact h4))
              · exact .inr (by omega)
      · have h64b : ((s.size : Int) != 64) = true := by simp; omega
        have e : P = (r, 42) := by rw [HP.out]; simp [h64]
        subst e
        clear h64
        go_enter Try.func36, Try.ntmps36
        go_wp2_with (go_at_call 56; refine (hr _).mono ?_; rintro e w' ⟨rfl, rfl⟩)
        go_ret
        exact ⟨rfl, own, H0.out.mono (by omega), fun j hj => .inl hj, Med.Frame.refl _ _⟩
end Go.Proofs.Ytojehachhfcfaaa.Ref
namespace Go.Proofs.Ytojehachhfcfaaa.RefP
open Go.RowKit Go.Proofs.Ytojehachhfcfaaa.SumPure Go.Proofs.Ytojehachhfcfaaa.SlSect Go.Proofs.Ytojehachhfcfaaa.Save Go.Proofs.Ytojehachhfcfaaa.SlPure Go.Proofs.Ytojehachhfcfaaa.SlLaw
open Go.Proofs.Ytojehachhfcfaaa.Med (Med)
open Go.Proofs.Ytojehachhfcfaaa.Ref (R Item put seekR right)
structure Rel (M : Med) (r : R) : Prop where
  off : M.off = r.off
  wr : M.writes = r.writes
  armed : r.armed = true → M.left = r.left ∧ 0 ≤ r.left
  free : r.armed = false → M.left = -1
  S : ∀ f a, M.S f a = seekR f a r.L
theorem Rel.new : Rel Med.new R.new := ⟨rfl, rfl, (fun h => by cases h), fun _ => rfl, fun f a => rfl⟩
theorem seek_put (f a g b : Int) (s : ByteArray) (l : List Ref.Item) : seekR g b (put f a s l) = if g = f ∧ b = a then some s else seekR g b l := by
  induction l with
  | nil =>
    simp only [put, seekR]
    by_cases h : g = f ∧ b = a
    · rw [if_pos h, if_pos ⟨h.1.symm, h.2.symm⟩]
    · rw [if_neg h, if_neg (fun k => h ⟨k.1.symm, k.2.symm⟩)]
  | cons x l ih =>
    unfold put
    by_cases h1 : x.1 = f ∧ x.2.1 = a
    · rw [if_pos h1]
      simp only [seekR]
      by_cases h : g = f ∧ b = a
      · rw [if_pos h, if_pos ⟨h1.1.trans h.1.symm, h1.2.trans h.2.symm⟩]
      · rw [if_neg h]
        have : ¬(x.1 = g ∧ x.2.1 = b) := fun k => h ⟨by rw [← k.1, h1.1], by rw [← k.2, h1.2]⟩
        rw [if_neg this, if_neg this]
    · rw [if_neg h1]
      simp only [seekR]
      by_cases h2 : x.1 = g ∧ x.2.1 = b
      · rw [if_pos h2]
        have : ¬(g = f ∧ b = a) := fun k => h1 ⟨by rw [h2.1, k.1], by rw [h2.2, k.2]⟩
        rw [if_neg this, if_pos h2]
      · rw [if_neg h2, if_neg h2, ih]
theorem right_iff (f a : Int) : right f a = false ↔ (f < 0 ∨ f ≥ 1048576 ∨ a < 0 ∨ a ≥ 65536) := by
  unfold right
  rw [decide_eq_false_iff_not]
  omega
theorem Rel.write {M : Med} {r : R} (h : Rel M r) (f a : Int) (s : ByteArray) : (M.write f a s).2 = (r.write f a s).2 ∧ Rel (M.write f a s).1 (r.write f a s).1 := by
  unfold Med.write R.write
  cases ho : r.off with
  | true =>
    have h1 : M.ready f a s.size = 40 := by unfold Med.ready; rw [h.off, ho]; rfl
    rw [h1, if_neg (by decide), if_pos rfl]
    exact ⟨rfl, h⟩
  | false =>
    have h1 : M.ready f a s.size = if f < 0 ∨ f ≥ 1048576 ∨ a < 0 ∨ a ≥ 65536 ∨ (s.size : Int) ≠ 64 then 42 else 0 := by unfold Med.ready; rw [h.off, ho]; rfl
    rw [if_neg (show ¬ false = true by decide)]
    by_cases hb : right f a = false ∨ s.size ≠ 64
    · rw [if_pos hb]
      have h2 : M.ready f a s.size = 42 := by
        rw [h1, if_pos]
        rcases hb with hb | hb
        · rw [right_iff] at hb; omega
        · omega
      rw [h2, if_neg (by decide)]
      exact ⟨rfl, h⟩
    · rw [if_neg hb]
      have h2 : M.ready f a s.size = 0 := by
        rw [h1, if_neg]
        intro k
        apply hb
        rw [right_iff]
        omega
      rw [h2, if_pos rfl]
      have hL : ∀ g b, (if g = f ∧ b = a then some s else M.S g b) = seekR g b (put f a s r.L) := fun g b => by rw [seek_put, h.S]
      by_cases ha : r.armed = true
      · obtain ⟨e1, e2⟩ := h.armed ha
        by_cases h0 : M.left = 0
        · have hsp : M.spend = ({ M with off := true }, 40) := by unfold Med.spend; rw [if_pos h0]
          have hact : r.act = ({ r with off := true }, false) := by unfold R.act; rw [if_pos ⟨ha, by omega⟩]
          rw [hsp, hact]
          simp only []
          rw [if_neg (show ¬ (40 : Int) = 0 by decide), if_neg (show ¬ false = true by decide)]
          exact ⟨rfl, ⟨rfl, h.wr, (fun _ => ⟨e1, e2⟩), (fun k => by rw [show r.armed = false from k] at ha; cases ha), h.S⟩⟩
        · have hsp : M.spend = ({ M with left := if M.left > 0 then M.left - 1 else -1, writes := M.writes + 1 }, 0) := by unfold Med.spend; rw [if_neg h0]
          have hact : r.act = ({ r with left := r.left - 1, writes := r.writes + 1 }, true) := by unfold R.act; rw [if_neg (fun k => by have := k.2; omega)]
          rw [hsp, hact]
          simp only [if_true]
          refine ⟨trivial, ⟨h.off, ?_, fun _ => ⟨?_, ?_⟩, (fun k => by rw [show r.armed = false from k] at ha; cases ha), hL⟩⟩
          · show M.writes + 1 = r.writes + 1; rw [h.wr]
          · show (if M.left > 0 then M.left - 1 else -1) = r.left - 1; rw [if_pos (by omega), e1]
          · show 0 ≤ r.left - 1; omega
      · have ha' : r.armed = false := by simpa using ha
        have e1 := h.free ha'
        have hsp : M.spend = ({ M with left := if M.left > 0 then M.left - 1 else -1, writes := M.writes + 1 }, 0) := by unfold Med.spend; rw [if_neg (by omega)]
        have hact : r.act = ({ r with left := r.left - 1, writes := r.writes + 1 }, true) := by unfold R.act; rw [if_neg (fun k => ha k.1)]
        rw [hsp, hact]
        simp only [if_true]
        refine ⟨trivial, ⟨h.off, ?_, (fun k => absurd k ha), fun _ => ?_, hL⟩⟩
        · show M.writes + 1 = r.writes + 1; rw [h.wr]
        · show (if M.left > 0 then M.left - 1 else -1) = -1; rw [if_neg (by omega)]
theorem Rel.read {M : Med} {r : R} (h : Rel M r) (f a : Int) : r.read f a = M.read f a := by
  unfold Med.read R.read
  cases ho : r.off with
  | true =>
    have h1 : M.ready f a 64 = 40 := by unfold Med.ready; rw [h.off, ho]; rfl
    rw [if_pos rfl, h1, if_neg (by decide)]
  | false =>
    have h1 : M.ready f a 64 = if f < 0 ∨ f ≥ 1048576 ∨ a < 0 ∨ a ≥ 65536 ∨ (64 : Int) ≠ 64 then 42 else 0 := by unfold Med.ready; rw [h.off, ho]; rfl
    rw [if_neg (show ¬ false = true by decide)]
    by_cases hb : right f a = false
    · rw [if_pos hb]
      rw [right_iff] at hb
      have h2 : M.ready f a 64 = 42 := by rw [h1, if_pos (by omega)]
      rw [h2, if_neg (by decide)]
    · rw [if_neg hb]
      have hb' : ¬(f < 0 ∨ f ≥ 1048576 ∨ a < 0 ∨ a ≥ 65536 ∨ (64 : Int) ≠ 64) := by
        rw [right_iff] at hb; omega
      rw [h1, if_neg hb', if_pos rfl, h.S]
      cases seekR f a r.L <;> rfl
theorem Rel.arm {M : Med} {r : R} (h : Rel M r) (x : Int) : Rel (M.arm x) (r.arm x) := by
  refine ⟨h.off, h.wr, fun _ => ⟨?_, ?_⟩, (fun k => by cases k), h.S⟩
  · show (if x > 0 then x else 0) = (if x < 0 then 0 else x); split <;> split <;> omega
  · show 0 ≤ (if x < 0 then 0 else x); split <;> omega
theorem Rel.on {M : Med} {r : R} (h : Rel M r) : Rel M.on r.on := ⟨rfl, h.wr, (fun k => by cases k), fun _ => rfl, h.S⟩
/-! ### Save -/
def rsaveL (n : Int) (D : List UInt8) (q : Nat) (f : Int) : Nat → Nat → R → R × Int
  | 0, _, r => (r, 0)
  | m + 1, i, r => if (r.write f i (ssec n D q i)).2 = 0 then rsaveL n D q f m (i + 1) (r.write f i (ssec n D q i)).1 else r.write f i (ssec n D q i)
def rsave (r : R) (n : Int) (D : List UInt8) : R × Int :=
  if n < 1 ∨ n > 2147483647 ∨ D.length > 1000000 then (r, 43) else rsaveL n D (scnt D.length) (n % 2) (scnt D.length) 0 r
theorem Rel.saveL {n : Int} {D : List UInt8} {q : Nat} {f : Int} : ∀ (m i : Nat) {M : Med} {r : R}, Rel M r → (saveL n D q f m i M).2 = (rsaveL n D q f m i r).2 ∧ Rel (saveL n D q f m i M).1 (rsaveL n D q f m i r).1 := by
  intro m
  induction m with
  | zero => intro i M r h; exact ⟨rfl, h⟩
  | succ m ih =>
    intro i M r h
    obtain ⟨h1, h2⟩ := h.write f i (ssec n D q i)
    rw [Save.saveL, rsaveL, h1]
    split
    · exact ih (i + 1) h2
    · exact ⟨h1, h2⟩
theorem Rel.save {M : Med} {r : R} (h : Rel M r) (n : Int) (D : List UInt8) : (save M n D).2 = (rsave r n D).2 ∧ Rel (save M n D).1 (rsave r n D).1 := by
  unfold Save.save rsave
  split
  · exact ⟨rfl, h⟩
  · exact Rel.saveL _ _ h
/-! ### Load -/
/-- The bytes of so many sectors from one on. -/
def col (M : Med) (file : Int) : Nat → Nat → Option (List UInt8)
  | 0, _ => some []
  | k + 1, i => if (M.read file i).2 = 0 ∧ sM (M.read file i).1.data.toList ≤ 53 then (col M file k (i + 1)).map (sD (M.read file i).1.data.toList ++ ·) else none
def rwhole (M : Med) (file : Int) : Option (Int × List UInt8) :=
  if (M.read file 0).2 ≠ 0 then none else
  if sN (M.read file 0).1.data.toList < 1 ∨ sN (M.read file 0).1.data.toList > 2147483647 ∨ sN (M.read file 0).1.data.toList % 2 ≠ file ∨ sQ (M.read file 0).1.data.toList < 1 then none else
  match col M file (sQ (M.read file 0).1.data.toList).toNat 0 with
  | none => none
  | some D => if D.length > 1000000 ∨ scnt D.length ≠ (sQ (M.read file 0).1.data.toList).toNat then none else
    if ∀ i, i < scnt D.length → (M.read file (i : Nat)).1 = ssec (sN (M.read file 0).1.data.toList) D (scnt D.length) i then some (sN (M.read file 0).1.data.toList, D) else none
theorem col_ok {M : Med} {file : Int} : ∀ (k i : Nat) {D : List UInt8}, col M file k i = some D → ∀ j, j < k → (M.read file ((i + j : Nat) : Int)).2 = 0 := by
  intro k
  induction k with
  | zero => intro i D h j hj; omega
  | succ k ih =>
    intro i D h j hj
    rw [col] at h
    split at h
    · rename_i hc
      cases j with
      | zero => exact hc.1
      | succ j =>
        obtain ⟨D', h', _⟩ := Option.map_eq_some_iff.1 h
        have := ih (i + 1) h' j (by omega)
        rw [show i + (j + 1) = i + 1 + j from by omega]
        exact this
    · cases h
theorem col_of {M : Med} {file : Int} : ∀ (ds : List (List UInt8)) (i : Nat), (∀ j (h : j < ds.length), ∃ s, M.read file ((i + j : Nat) : Int) = (s, 0) ∧ sM s.data.toList ≤ 53 ∧ ds[j] = sD s.data.toList) → col M file ds.length i = some ds.flatten := by
  intro ds
  induction ds with
  | nil => intro i _; rfl
  | cons d ds ih =>
    intro i h
    obtain ⟨s, h1, h2, h3⟩ := h 0 (by simp)
    rw [Nat.add_zero] at h1
    rw [List.length_cons, col, h1, if_pos ⟨rfl, h2⟩, ih (i + 1) (fun j hj => by
      obtain ⟨s', a, b, c⟩ := h (j + 1) (by simpa using hj)
      exact ⟨s', by rw [show i + 1 + j = i + (j + 1) from by omega]; exact a, b, by simpa using c⟩)]
    simp only [List.getElem_cons_zero] at h3
    simp [h3]
/-- Parts that are full but for the last one: they are the whole's chunks. -/
theorem chunks (ds : List (List UInt8)) : 1 ≤ ds.length → (∀ j (h : j < ds.length), ds[j].length ≤ 53 ∧ (ds[j].length = 53 ∨ j = ds.length - 1 ∧ (ds[j] ≠ [] ∨ j = 0))) →
    scnt ds.flatten.length = ds.length ∧ ∀ j (h : j < ds.length), schunk ds.flatten j = ds[j] := by
  have key : ∀ (es : List (List UInt8)), 1 ≤ es.length → (∀ j (h : j < es.length), es[j].length ≤ 53 ∧ (j < es.length - 1 → es[j].length = 53)) → es.flatten.length ≤ 53 * es.length ∧ 53 * (es.length - 1) + (es[es.length - 1]?.getD []).length = es.flatten.length ∧ ∀ j (h : j < es.length), schunk es.flatten j = es[j] := by
    intro es
    induction es with
    | nil => intro h; simp at h
    | cons e es ih =>
      intro _ h
      cases hes : es with
      | nil =>
        subst hes
        have h0 := (h 0 (by simp)).1
        simp at h0
        refine ⟨by simp; omega, by simp, fun j hj => ?_⟩
        obtain rfl : j = 0 := by simp at hj; omega
        simp [schunk, List.take_of_length_le h0]
      | cons e' es' =>
        rw [← hes]
        have hl : 1 ≤ es.length := by rw [hes]; simp
        have h0 : e.length = 53 := by
          have := (h 0 (by simp)).2 (by simp; omega)
          simpa using this
        obtain ⟨i1, i2, i3⟩ := ih hl (fun j hj => by
          have := h (j + 1) (by simpa using hj)
          simp only [List.getElem_cons_succ] at this
          exact ⟨this.1, fun k => this.2 (by simp; omega)⟩)
        refine ⟨by simp at i1 ⊢; omega, ?_, fun j hj => ?_⟩
        · simp only [List.length_cons, Nat.add_sub_cancel, List.flatten_cons, List.length_append]
          rw [show (e :: es)[es.length]? = es[es.length - 1]? from by
            rw [show es.length = (es.length - 1) + 1 from by omega]; simp]
          omega
        · cases j with
          | zero => simp [schunk, List.take_left' h0]
          | succ j =>
            have := i3 j (by simpa using hj)
            simp only [List.getElem_cons_succ, List.flatten_cons]
            rw [← this]
            unfold schunk
            rw [show 53 * (j + 1) = e.length + 53 * j from by omega, List.drop_append, List.drop_eq_nil_of_le (show e.length ≤ e.length + 53 * j by omega)]
            simp
  intro h1 h
  obtain ⟨k1, k2, k3⟩ := key ds h1 (fun j hj => ⟨(h j hj).1, fun hlt => by
    rcases (h j hj).2 with e | ⟨e, _⟩
    · exact e
    · omega⟩)
  refine ⟨?_, k3⟩
  have hlast := h (ds.length - 1) (by omega)
  rw [List.getElem?_eq_getElem (by omega)] at k2
  simp only [Option.getD_some] at k2
  unfold scnt
  rcases hlast.2 with e | ⟨_, e | e⟩
  · omega
  · have : 1 ≤ (ds[ds.length - 1]).length := by
      rcases Nat.eq_zero_or_pos (ds[ds.length - 1]).length with h0 | h0
      · exact absurd (List.eq_nil_of_length_eq_zero h0) e
      · exact h0
    omega
  · omega
theorem rwhole_is (M : Med) (file : Int) (hf : file = 0 ∨ file = 1) : rwhole M file = if (slotP M file).2.2 = true then some ((slotP M file).1, (slotP M file).2.1) else none := by
  have fwd : ∀ n D, rwhole M file = some (n, D) → slotP M file = (n, D, true) := by
    intro n D h
    unfold rwhole at h
    split at h
    · cases h
    · rename_i h0
      split at h
      · cases h
      · rename_i hb
        split at h
        · cases h
        · rename_i D' hcol
          split at h
          · cases h
          · rename_i hl
            split at h
            · rename_i hall
              simp only [Option.some.injEq, Prod.mk.injEq] at h
              obtain ⟨rfl, rfl⟩ := h
              have hread : ∀ j, j < scnt D'.length → M.read file (j : Nat) = (ssec (sN (M.read file 0).1.data.toList) D' (scnt D'.length) j, 0) := fun j hj => by
                refine Prod.ext (hall j hj) ?_
                have := col_ok _ _ hcol j (by omega)
                simpa using this
              have hoff : M.off = false := (read_inv (j := 0) (hread 0 (scnt_pos _))).2
              exact slotP_there hoff (by omega) (by omega) (by omega) (by omega) (fun j hj => (read_inv (hread j hj)).1)
            · cases h
  rcases slotP_cases M file with e | ⟨n, D, e⟩
  · rw [e, if_neg (by simp)]
    cases hr : rwhole M file with
    | none => rfl
    | some p =>
      have := fwd p.1 p.2 hr
      rw [e] at this
      simp at this
  · rw [e, if_pos rfl]
    obtain ⟨h1, h2, h3, h4, ds, hds, hD, hj⟩ := slotP_inv e
    obtain ⟨s0, r0, m0, o0, d0⟩ := hj 0 hds
    have r0' : M.read file 0 = (s0, 0) := r0
    obtain ⟨ck1, ck2⟩ := chunks ds hds (fun j hjl => by
      obtain ⟨s, r, m, o, d⟩ := hj j hjl
      have hq := o.2.2.1
      have hf := o.2.2.2.2
      rw [← d, hq] at hf
      refine ⟨?_, ?_⟩
      · rw [d]; unfold sD; rw [List.length_take]; omega
      · rcases hf with hf | ⟨hf, hf'⟩
        · exact .inl hf
        · exact .inr ⟨by omega, hf'⟩)
    rw [← hD] at ck1 ck2
    have hcol := col_of (M := M) (file := file) ds 0 (fun j hjl => by
      obtain ⟨s, r, m, o, d⟩ := hj j hjl
      exact ⟨s, by rw [Nat.zero_add]; exact r, m, d⟩)
    unfold rwhole
    rw [r0']
    simp only []
    rw [if_neg (by simp), o0.2.1, o0.2.2.1, if_neg (by omega), Int.toNat_natCast, hcol, ← hD]
    simp only []
    rw [if_neg (by omega), if_pos]
    intro j hjl
    obtain ⟨s, r, m, o, d⟩ := hj j (by omega)
    rw [r]
    apply ba_ext
    rw [ssec_toList, ck1, ck2 j (by omega), d]
    have := o.1
    rw [o.2.1, o.2.2.1, o.2.2.2.1] at this
    exact this.symm
/-- What the reference loads. -/
def rnum (o : Option (Int × List UInt8)) : Int := match o with | some p => p.1 | none => 0
def rdat (o : Option (Int × List UInt8)) : List UInt8 := match o with | some p => p.2 | none => []
def rload (M : Med) : Int × List UInt8 × Int :=
  if rnum (rwhole M 0) = 0 ∧ rnum (rwhole M 1) = 0 then (0, [], 41) else
  if rnum (rwhole M 0) > rnum (rwhole M 1) then (rnum (rwhole M 0), rdat (rwhole M 0), 0) else (rnum (rwhole M 1), rdat (rwhole M 1), 0)
theorem rload_is {M : Med} (hoff : M.off = false) : rload M = newest M := by
  unfold newest loadP rload
  rw [if_neg (load_read hoff), rwhole_is M 0 (.inl rfl), rwhole_is M 1 (.inr rfl)]
  rcases slotP_cases M 0 with e0 | ⟨n0, D0, e0⟩
  · rcases slotP_cases M 1 with e1 | ⟨n1, D1, e1⟩
    · rw [e0, e1, load1_none, load1_none]
      simp [rnum]
    · obtain ⟨h1, h2, h3, _⟩ := slotP_inv e1
      rw [e0, e1, load1_none, load1_gt (show n1 > 0 by omega)]
      simp only [rnum, rdat, if_true, Bool.false_eq_true, if_false]
      rw [if_neg (by simp; omega), if_neg (by simp; omega)]
  · obtain ⟨a1, a2, a3, _⟩ := slotP_inv e0
    rcases slotP_cases M 1 with e1 | ⟨n1, D1, e1⟩
    · rw [e0, e1, load1_none, load1_gt (show n0 > 0 by omega)]
      simp only [rnum, rdat, if_true, Bool.false_eq_true, if_false]
      rw [if_neg (by omega), if_pos (by omega)]
    · obtain ⟨h1, h2, h3, _⟩ := slotP_inv e1
      rw [e0, e1, load1_gt (n := n0) (D := D0) (acc := (0, [], false)) (show n0 > 0 by omega)]
      simp only [rnum, rdat, if_true, Bool.false_eq_true, if_false]
      rw [if_neg (by omega)]
      by_cases hgt : n0 > n1
      · rw [if_pos hgt, load1_le (show ¬ n1 > n0 by omega)]; rfl
      · rw [if_neg hgt, load1_gt (show n1 > n0 by omega)]; rfl
end Go.Proofs.Ytojehachhfcfaaa.RefP
namespace Go.Proofs.Ytojehachhfcfaaa.RefLay
open Go.RowKit Go.Proofs.Ytojehachhfcfaaa.SumPure Go.Proofs.Ytojehachhfcfaaa.Arr Go.Proofs.Ytojehachhfcfaaa.SlSect Go.Proofs.Ytojehachhfcfaaa.Save Go.Proofs.Ytojehachhfcfaaa.SlPure Go.Proofs.YtojehachhfcfaaaW.PrintWords Go.Proofs.YtojehachhfcfaaaW.PrintLast Go.Proofs.YtojehachhfcfaaaW.PrintMore
theorem m256 (x : Int) : (wrap64 x) % 256 = ((b8 x).toNat : Int) := by rw [b8_int]; unfold wrap64; omega
theorem b256 (x : Int) : x % 256 = ((b8 x).toNat : Int) := by rw [b8_int]
theorem sec_l0 (d : Nat) : ∀ (k : Nat) (L : List UInt8), L.length ≤ 62 → 62 - L.length = d → d + 100 ≤ k →
    stevedoreref06_sector.l0 k (ints L) = some ⟨((L ++ List.replicate (62 - L.length) 0) ++ [b8 (sumL 1 (L ++ List.replicate (62 - L.length) 0) / 256), b8 (sumL 1 (L ++ List.replicate (62 - L.length) 0))]).toArray⟩ := by
  induction d with
  | zero =>
    intro k L hl hd hk
    obtain ⟨k, rfl⟩ : ∃ m, k = m + 1 := ⟨k - 1, by omega⟩
    have hr := sumL_range 1 L (by omega) (by omega)
    simp only [stevedoreref06_sector.l0]
    rw [if_neg (by rw [ints_len]; omega), str_ints, ref_Sum_at _ (by rw [size_mk]; omega) (by rw [size_mk]; omega)]
    simp only [Option.bind_some]
    rw [if_pos (by rw [ints_len]; simp; omega), Int.tdiv_eq_ediv_of_nonneg hr.1, m256, b256, show 62 - L.length = 0 from hd, List.replicate_zero, List.append_nil]
    rw [show ([((b8 (sumL 1 L / 256)).toNat : Int), ((b8 (sumL 1 L)).toNat : Int)] : List Int) = ints [b8 (sumL 1 L / 256), b8 (sumL 1 L)] from rfl, ← ints_append, str_ints]
  | succ d ih =>
    intro k L hl hd hk
    obtain ⟨k, rfl⟩ : ∃ m, k = m + 1 := ⟨k - 1, by omega⟩
    simp only [stevedoreref06_sector.l0]
    rw [if_pos (by rw [ints_len]; omega), if_pos (by rw [ints_len]; omega)]
    have := ih k (L ++ [0]) (by simp; omega) (by simp; omega) (by omega)
    rw [show ints (L ++ [0]) = ints L ++ [0] from by rw [ints_append]; rfl] at this
    rw [this]
    have e : L ++ [0] ++ List.replicate (62 - (L ++ [0]).length) 0 = L ++ List.replicate (62 - L.length) 0 := by
      rw [show 62 - L.length = (62 - (L ++ [0]).length) + 1 from by simp; omega, List.replicate_succ]
      simp
    rw [e]
theorem sector_at (n p q : Int) (d : ByteArray) (hn : 0 ≤ n) (hp : 0 ≤ p) (hq : 0 ≤ q) (hd : d.size ≤ 53) {k : Nat} (hk : 200 ≤ k) : stevedoreref06_sector.f k n p q d = some ⟨(sect n p q d.data.toList).toArray⟩ := by
  unfold stevedoreref06_sector.f
  simp only [Option.bind_some]
  rw [if_pos (by simp; omega)]
  rw [Int.tdiv_eq_ediv_of_nonneg hn, Int.tdiv_eq_ediv_of_nonneg hn, Int.tdiv_eq_ediv_of_nonneg hn, Int.tdiv_eq_ediv_of_nonneg hp, Int.tdiv_eq_ediv_of_nonneg hq, m256, m256, m256, m256, m256, b256 n, b256 p, b256 q, b256 (d.size : Int)]
  have e : ([((b8 (n / 16777216)).toNat : Int), ((b8 (n / 65536)).toNat : Int), ((b8 (n / 256)).toNat : Int), ((b8 n).toNat : Int), ((b8 (p / 256)).toNat : Int), ((b8 p).toNat : Int), ((b8 (q / 256)).toNat : Int), ((b8 q).toNat : Int), ((b8 (d.size : Int)).toNat : Int)] : List Int) ++ bytesOf d = ints (head n p q d.data.toList ++ d.data.toList) := by
    unfold head
    rw [ints_append, size_len]
    rfl
  rw [e]
  have hl : (head n p q d.data.toList ++ d.data.toList).length = 9 + d.size := by unfold head; simp; omega
  rw [sec_l0 (62 - (head n p q d.data.toList ++ d.data.toList).length) k _ (by omega) rfl (by omega)]
  unfold sect body
  rw [hl, show 62 - (9 + d.size) = 53 - d.data.toList.length from by rw [size_len]; omega]
theorem ref_Sectors_at (s : Nat) (hs : s ≤ 1000000000000000) : stevedoreref06_Sectors.f (s : Int) = some (scnt s : Int) := Sectors_at s hs
theorem chunk_at (D : ByteArray) (i q : Nat) (hq : q = scnt D.size) (hi : i < q) (hs : D.size ≤ 1000000) : wrap64 ((i : Int) * 53) = ((53 * i : Nat) : Int) ∧ mn (D.size : Int) (wrap64 ((wrap64 ((i : Int) + 1)) * 53)) = ((min D.size (53 * i + 53) : Nat) : Int) ∧ 53 * i ≤ min D.size (53 * i + 53) ∧
    (D.extract (53 * i) (min D.size (53 * i + 53))).data.toList = schunk D.data.toList i := by
  have hb : 53 * i ≤ D.size := by unfold scnt at hq; omega
  refine ⟨?_, ?_, by omega, ?_⟩
  · rw [wrap_id (by omega) (by omega)]; omega
  · rw [wrap_id (x := (i : Int) + 1) (by omega) (by omega), wrap_id (by omega) (by omega)]
    unfold mn
    split <;> omega
  · rw [extract_mid]
    unfold schunk
    show (D.data.toList.drop (53 * i)).take (min D.size (53 * i + 53) - 53 * i) = _
    by_cases h : 53 * i + 53 ≤ D.size
    · rw [Nat.min_eq_right h, Nat.add_sub_cancel_left]
    · rw [Nat.min_eq_left (by omega), List.take_of_length_le (by rw [List.length_drop, size_len]; omega), List.take_of_length_le (by rw [List.length_drop, size_len]; omega)]
theorem lay_l0 (n : Int) (D : ByteArray) (hn : 1 ≤ n) (hs : D.size ≤ 1000000) (d : Nat) : ∀ (k i : Nat), i ≤ scnt D.size → scnt D.size - i = d → d + 300 ≤ k →
    stevedoreref06_Lay.l0 k n D (scnt D.size : Int) ((List.range i).map (ssec n D.data.toList (scnt D.size))) (i : Int) = some ((List.range (scnt D.size)).map (ssec n D.data.toList (scnt D.size)), 0) := by
  have hq : scnt D.size < 20000 := by unfold scnt; omega
  induction d with
  | zero =>
    intro k i hi hd hk
    obtain ⟨k, rfl⟩ : ∃ m, k = m + 1 := ⟨k - 1, by omega⟩
    simp only [stevedoreref06_Lay.l0]
    rw [if_neg (by omega), show i = scnt D.size from by omega]
  | succ d ih =>
    intro k i hi hd hk
    obtain ⟨k, rfl⟩ : ∃ m, k = m + 1 := ⟨k - 1, by omega⟩
    obtain ⟨c1, c2, c3, c4⟩ := chunk_at D i _ rfl (show i < scnt D.size by omega) hs
    simp only [stevedoreref06_Lay.l0]
    rw [if_pos (by omega), c1, c2, if_pos (by omega), if_pos (by omega), if_pos (by omega), Int.toNat_natCast, Int.toNat_natCast]
    rw [sector_at n i (scnt D.size : Nat) _ (by omega) (by omega) (by omega) (by rw [← size_len, c4]; exact schunk_len _ _) (by omega), c4]
    simp only [Option.bind_some]
    rw [if_pos (by simp; omega), wrap_id (x := (i : Int) + 1) (by omega) (by omega)]
    have := ih k (i + 1) (by omega) (by omega) (by omega)
    rw [List.range_succ, List.map_append] at this
    exact this
/-- A snapshot's sectors. -/
def secs (n : Int) (D : List UInt8) : List ByteArray := (List.range (scnt D.length)).map (ssec n D (scnt D.length))
theorem lay_at (n : Int) (D : ByteArray) {k : Nat} (hk : 30000 ≤ k) : stevedoreref06_Lay.f k n D = if n < 1 ∨ n > 2147483647 ∨ D.size > 1000000 then some ([], 43) else some (secs n D.data.toList, 0) := by
  have j1 : ∀ {k : Nat}, 1 ≤ k → stevedoreref06_Lay.j0 k n D true = some ([], 43) := fun {k'} h => by
    obtain ⟨k, rfl⟩ : ∃ m, k' = m + 1 := ⟨k' - 1, by omega⟩
    simp only [stevedoreref06_Lay.j0]
    rw [if_pos trivial]
  unfold stevedoreref06_Lay.f
  by_cases h1 : n < 1
  · rw [if_pos h1, if_pos (.inl h1), j1 (by omega)]
  · rw [if_neg h1]
    by_cases h2 : n > 2147483647
    · rw [if_pos h2, if_pos (.inr (.inl h2)), j1 (by omega)]
    · rw [if_neg h2]
      by_cases h3 : (D.size : Int) > 1000000
      · rw [decide_eq_true h3, if_pos (.inr (.inr (by omega))), j1 (by omega)]
      · rw [decide_eq_false h3, if_neg (by omega)]
        obtain ⟨k, rfl⟩ : ∃ m, k = m + 1 := ⟨k - 1, by omega⟩
        simp only [stevedoreref06_Lay.j0]
        rw [if_neg (by decide), ref_Sectors_at D.size (by omega)]
        simp only [Option.bind_some]
        have hq : scnt D.size < 20000 := by unfold scnt; omega
        have := lay_l0 n D (by omega) (by omega) (scnt D.size) k 0 (by omega) (by omega) (by omega)
        unfold secs
        rw [size_len]
        exact this
theorem secs_len (n : Int) (D : List UInt8) : (secs n D).length = scnt D.length := by simp [secs]
theorem secs_at (n : Int) (D : List UInt8) {i : Nat} (h : i < scnt D.length) (d : ByteArray) : (secs n D).getD i d = ssec n D (scnt D.length) i := by
  unfold secs
  simp [List.getD_eq_getElem?_getD, h]
end Go.Proofs.Ytojehachhfcfaaa.RefLay
namespace Go.Proofs.Ytojehachhfcfaaa.Ref06
open Go.RowKit Go.Proofs.Ytojehachhfcfaaa.SumPure Go.Proofs.Ytojehachhfcfaaa.SlSect Go.Proofs.Ytojehachhfcfaaa.Save Go.Proofs.Ytojehachhfcfaaa.SlPure Go.Proofs.Ytojehachhfcfaaa.SlLaw Go.Proofs.Ytojehachhfcfaaa.RefP Go.Proofs.Ytojehachhfcfaaa.RefLay
open Go.Proofs.YtojehachhfcfaaaW.PrintWords Go.Proofs.YtojehachhfcfaaaW.PrintLast Go.Proofs.YtojehachhfcfaaaW.PrintMore
open Go.Proofs.Ytojehachhfcfaaa.Med (Med)
open Go.Proofs.Ytojehachhfcfaaa.Ref (R IsRef)
/-- A snapshot's sectors stand in memory, from block B on. -/
structure HasSecs (w : World) (B : Nat) (A : Option Addr) (c : Nat) (n : Int) (D : List UInt8) : Prop where
  cell : ∃ x : Addr, A = some x ∧ B ≤ x.block ∧ x.block < w.heap.size ∧ ∀ j, j < scnt D.length → w.cell? (x.add j) = some (.string (ssec n D (scnt D.length) j))
  cap : scnt D.length ≤ c
theorem block_of_add (a : Addr) (n : Nat) : (a.add n).block = a.block := by unfold Addr.add; split <;> rfl
/-- What the reference's Lay answers. -/
theorem lay_calls (n : Int) (D : ByteArray) (w : World) : Calls Try.prog 34 #[.int .i64 n, .string D] w fun e w' =>
    (if n < 1 ∨ n > 2147483647 ∨ D.size > 1000000 then ∃ A c, e = .returned (.tuple #[.slice A 0 c, .int .i64 43]) else ∃ A c, e = .returned (.tuple #[.slice A (scnt D.size) c, .int .i64 0]) ∧ HasSecs w' w.heap.size A c n D.data.toList) ∧ Below w.heap.size w w' := by
  by_cases h : n < 1 ∨ n > 2147483647 ∨ D.size > 1000000
  · have hl := lay_at n D (Nat.le_refl 30000)
    rw [if_pos h] at hl
    refine (stevedoreref06_Lay.calls 30000 n D _ _ w hl).mono ?_
    rintro e w' ⟨v, rfl, hr, hb⟩
    rw [if_pos h]
    obtain ⟨A, c, rfl⟩ := Kd.R_slice hr
    exact ⟨⟨A, c, rfl⟩, hb⟩
  · have hl := lay_at n D (Nat.le_refl 30000)
    rw [if_neg h] at hl
    refine (stevedoreref06_Lay.calls 30000 n D _ _ w hl).mono ?_
    rintro e w' ⟨v, rfl, hr, hb⟩
    rw [if_neg h]
    obtain ⟨inner, ho⟩ := Kd.R_own hr
    obtain ⟨A, c, rfl, hc, hC⟩ := Kd.R_reads hr
    have hrd := Kd.reads_of_C (d := ByteArray.empty) (h1 := fun _ => rfl) hC
    rw [secs_len, size_len] at hc
    refine ⟨⟨A, c, by rw [secs_len, size_len], ⟨?_, by rw [size_len]; exact hc⟩⟩, hb⟩
    have h0 : 0 < scnt D.data.toList.length := by have := scnt_pos D.data.toList.length; omega
    obtain ⟨_, _, hcell⟩ := hrd
    rw [secs_len] at hcell
    obtain ⟨x, hx, hj⟩ := hcell h0
    subst hx
    have := block_lt_of_cell (hj 0 h0)
    rw [block_of_add] at this
    exact ⟨x, rfl, own_base ho x.block rfl, this, fun j hjl => by rw [hj j hjl, secs_at n _ hjl]⟩
theorem HasSecs.keep {w w' : World} {B : Nat} {A : Option Addr} {c : Nat} {n : Int} {D : List UInt8} (h : HasSecs w B A c n D) (hs : w.heap.size ≤ w'.heap.size) (k : ∀ i, B ≤ i → i < w.heap.size → w'.heap[i]? = w.heap[i]?) : HasSecs w' B A c n D := by
  obtain ⟨⟨x, hx, h1, h2, h3⟩, hc⟩ := h
  refine ⟨⟨x, hx, h1, by omega, fun j hj => ?_⟩, hc⟩
  rw [← h3 j hj]
  exact World.cell?_of_block (by rw [block_of_add]; exact k _ h1 h2)
theorem HasSecs.below {w w' : World} {B : Nat} {A : Option Addr} {c : Nat} {n : Int} {D : List UInt8} (h : HasSecs w B A c n D) (k : Below w.heap.size w w') : HasSecs w' B A c n D := h.keep k.size fun i _ hi => k.block i hi
theorem Left.write {own : Nat → Prop} {b : Nat} {w w1 : World} {r : R} {n : Nat} (h : Ref.Left own b w r n w1) (f a : Int) (s : ByteArray) (hs : s.size ≤ 9223372036854775807) (hn : n < 100000000) :
    Calls Try.prog 36 #[.pointer (some ⟨b, 0, none⟩), .int .i64 f, .int .i64 a, .string s] w1 fun e w' => e = .returned (.int .i64 (r.write f a s).2) ∧ Ref.Left own b w (r.write f a s).1 (n + 2) w' := by
  obtain ⟨o, m, c, fr⟩ := h
  refine (Ref.write_calls m f a s hs hn).mono ?_
  rintro e w' ⟨rfl, own', m', c', fr'⟩
  refine ⟨rfl, own', m', fun j hj => ?_, fr.trans fr' c⟩
  rcases c' j hj with h | h
  · exact c j h
  · exact .inr (Nat.le_trans fr.size h)
theorem Left.mono {own : Nat → Prop} {b : Nat} {w w1 : World} {r : R} {n n' : Nat} (h : Ref.Left own b w r n w1) (hn : n ≤ n') : Ref.Left own b w r n' w1 := by
  obtain ⟨o, m, c, fr⟩ := h
  exact ⟨o, m.mono hn, c, fr⟩
/-- The blocks' names of an elder world. -/
theorem Left.from {own : Nat → Prop} {b : Nat} {w w1 w2 : World} {r : R} {n : Nat} (h : Ref.Left (fun i => own i ∧ i < w.heap.size) b w1 r n w2) (k : Below w.heap.size w w1) : Ref.Left own b w r n w2 := by
  obtain ⟨o, m, c, fr⟩ := h
  refine ⟨o, m, fun j hj => ?_, fr.os.trans k.os, fr.tape.trans k.tape, fr.output.trans k.output, Nat.le_trans k.size fr.size, fun i hi hn => (fr.block i (Nat.lt_of_lt_of_le hi k.size) (fun h' => hn h'.1)).trans (k.block i hi)⟩
  rcases c j hj with h | h
  · exact .inl h.1
  · exact .inr (Nat.le_trans k.size h)
set_option maxHeartbeats 16000000 in
set_option maxRecDepth 100000 in
theorem save_calls {w : World} {own : Nat → Prop} {b : Nat} {r : R} {nb : Nat} (h : IsRef w own b r nb) (n : Int) (D : ByteArray) (hn : nb < 50000000) :
    Calls Try.prog 30 #[.pointer (some ⟨b, 0, none⟩), .int .i64 n, .string D] w fun e w' => e = .returned (.int .i64 (rsave r n D.data.toList).2) ∧ Ref.Left own b w (rsave r n D.data.toList).1 (nb + 2 * scnt D.size) w' := by
  have H := Aside0.mk h
  clear h
  obtain ⟨P, hP⟩ : ∃ P, P = rsave r n D.data.toList := ⟨_, rfl⟩
  rw [← hP]
  unfold rsave at hP
  rw [size_len] at hP
  have HP := Aside0.mk hP
  clear hP
  have hlay := lay_calls n D w
  go_enter Try.func30, Try.ntmps30
  by_cases hb : n < 1 ∨ n > 2147483647 ∨ D.size > 1000000
  · simp only [if_pos hb] at hlay
    have e : P = (r, 43) := by rw [HP.out, if_pos hb]
    subst e
    clear hb
    go_wp2_with (go_at_call 34; refine hlay.mono ?_; rintro e w' ⟨⟨A, c, rfl⟩, hbl⟩; have HB := Aside0.mk hbl; clear hbl)
    go_ret
    exact ⟨rfl, own, (H.out.below HB.out).mono (by omega), fun j hj => .inl hj, Med.Frame.of_below HB.out⟩
  · simp only [if_neg hb] at hlay
    have HP2 : Aside0 (P = rsaveL n D.data.toList (scnt D.size) (n % 2) (scnt D.size) 0 r) := ⟨by rw [HP.out, if_neg hb]⟩
    clear HP
    have h1 : 1 ≤ n := by omega
    have hq8 : scnt D.size ≤ 18868 := by unfold scnt; omega
    clear hb
    go_upto_region 4 with (go_at_call 34; refine hlay.mono ?_; rintro e w1 ⟨⟨A, c, rfl, hsx⟩, hbl⟩; have HB := Aside0.mk hbl; have HS := Aside0.mk hsx; clear hbl hsx)
    clear hlay
    have HL : Aside0 (Ref.Left (fun i => own i ∧ i < w.heap.size) b w1 r nb w1) := ⟨_, H.out.restrict.below HB.out, fun j hj => .inl hj, Med.Frame.refl _ _⟩
    obtain ⟨q, hq⟩ : ∃ q, q = scnt D.size := ⟨_, rfl⟩
    rw [← hq] at HP2 hq8 ⊢
    have HQ := Aside0.mk hq
    clear hq H
    go_wp2
    go_loopw [9] (fun v9 wr => ∃ (i : Nat) (ri : R), i ≤ q ∧ v9 = .int .i64 i ∧ Aside0 (Ref.Left (fun i => own i ∧ i < w.heap.size) b w1 ri (nb + 2 * i) wr) ∧ Aside0 (P = rsaveL n D.data.toList q (n % 2) (q - i) i ri)) (fun v9 _ => q - (intOf v9).toNat)
    case atStart => exact ⟨0, r, by omega, rfl, ⟨HL.out⟩, ⟨HP2.out⟩⟩
    case round =>
      obtain ⟨i, ri, hi, rfl, HLi, HPi⟩ := hrel
      clear HL HP2
      by_cases hlt : i < q
      · obtain ⟨x, hx, hx1, hx2, hx3⟩ := HS.out.cell
        subst hx
        have hc : wr.cell? (x.add i) = some (.string (ssec n D.data.toList q i)) := by
          have := hx3 i (by rw [size_len, ← HQ.out]; exact hlt)
          rw [size_len, ← HQ.out] at this
          rw [← this]
          obtain ⟨o, m, c', fr⟩ := HLi.out
          exact World.cell?_of_block (by rw [block_of_add]; exact fr.block _ hx2 (fun h => by have := h.2; omega))
        clear hx1 hx2 hx3
        have hcap := HS.out.cap
        rw [size_len, ← HQ.out] at hcap
        obtain ⟨r1, r2, hr⟩ : ∃ r1 r2, ri.write (n % 2) i (ssec n D.data.toList q i) = (r1, r2) := ⟨_, _, rfl⟩
        have hwr := Left.write HLi.out (n % 2) i (ssec n D.data.toList q i) (by rw [ssec_size]; omega) (by omega)
        rw [hr] at hwr
        have HPr : Aside0 (P = if r2 = 0 then rsaveL n D.data.toList q (n % 2) (q - (i + 1)) (i + 1) r1 else (r1, r2)) := ⟨by
          rw [HPi.out, show q - i = (q - (i + 1)) + 1 from by omega, rsaveL, hr]⟩
        clear hr HPi
        by_cases h0 : r2 = 0
        · subst h0
          go_wp2_with (go_at_call 36; refine hwr.mono ?_; rintro e wW ⟨rfl, hl⟩; have HLW := Aside0.mk hl; clear hl)
          go_roundw
          case rel => exact ⟨i + 1, r1, by omega, by go_num, ⟨Left.mono HLW.out (by omega)⟩, ⟨by rw [HPr.out]; simp⟩⟩
          case measure => simp [intOf]; omega
        · go_wp2_with (go_at_call 36; refine hwr.mono ?_; rintro e wW ⟨rfl, hl⟩; have HLW := Aside0.mk hl; clear hl)
          go_ret
          have e : P = (r1, r2) := by rw [HPr.out, if_neg h0]
          subst e
          exact ⟨rfl, Left.from (Left.mono HLW.out (by have := HQ.out; omega)) HB.out⟩
      · obtain rfl : i = q := by omega
        go_wp2
        go_ret
        have e : P = (ri, 0) := by rw [HPi.out, Nat.sub_self, rsaveL]
        subst e
        exact ⟨rfl, Left.from (Left.mono HLi.out (by have := HQ.out; omega)) HB.out⟩
end Go.Proofs.Ytojehachhfcfaaa.Ref06
namespace Go.Proofs.Ytojehachhfcfaaa.Ref06
open Go.RowKit Go.Proofs.Ytojehachhfcfaaa.SumPure Go.Proofs.Ytojehachhfcfaaa.SlSect Go.Proofs.Ytojehachhfcfaaa.Save Go.Proofs.Ytojehachhfcfaaa.SlPure Go.Proofs.Ytojehachhfcfaaa.SlLaw Go.Proofs.Ytojehachhfcfaaa.RefP Go.Proofs.Ytojehachhfcfaaa.RefLay
open Go.Proofs.YtojehachhfcfaaaW.PrintWords Go.Proofs.YtojehachhfcfaaaW.PrintLast Go.Proofs.YtojehachhfcfaaaW.PrintMore
open Go.Proofs.Ytojehachhfcfaaa.Med (Med)
open Go.Proofs.Ytojehachhfcfaaa.Ref (R IsRef)
theorem run_index (s : ByteArray) (i : Nat) (h : i < s.size) (W : World) : (Instr.index 9 (.string s) (.int .i64 (i : Int))).run Try.prog W = .ok (.int .u8 (s[i].toNat : Int)) W := by
  have h0 : (0 : Int) ≤ (i : Int) := by omega
  have h1 : (i : Int) < s.size := by omega
  go_simp
theorem list_at (s : ByteArray) (i : Nat) (h : i < s.size) : s.data.toList[i]'(by rw [size_len]; exact h) = s[i] := rfl
theorem sN_bytes (s : ByteArray) (h0 : 0 < s.size) (h1 : 1 < s.size) (h2 : 2 < s.size) (h3 : 3 < s.size) : sN s.data.toList = (s[0].toNat : Int) * 16777216 + (s[1].toNat : Int) * 65536 + (s[2].toNat : Int) * 256 + (s[3].toNat : Int) := by
  have hl : 4 ≤ s.data.toList.length := by rw [size_len]; omega
  have e : s.data.toList.take 4 = [s[0], s[1], s[2], s[3]] := by
    rw [List.take_succ_eq_append_getElem (by omega), List.take_succ_eq_append_getElem (by omega), List.take_succ_eq_append_getElem (by omega), List.take_succ_eq_append_getElem (by omega)]
    rfl
  unfold sN
  rw [e]
  simp only [smallL]
  omega
theorem sQ_bytes (s : ByteArray) (h6 : 6 < s.size) (h7 : 7 < s.size) : sQ s.data.toList = (s[6].toNat : Int) * 256 + (s[7].toNat : Int) := by
  have e : (s.data.toList.drop 6).take 2 = [s[6], s[7]] := by
    rw [List.drop_eq_getElem_cons (by rw [size_len]; omega), List.drop_eq_getElem_cons (by rw [size_len]; omega)]
    rfl
  unfold sQ
  rw [e]
  simp only [smallL]
  omega
theorem drewN_below {B : Nat} {w w1 : World} (h : Below B w w1) (m : Nat) : Below B w (w1.drewN m) := ⟨h.os, h.tape, h.output, h.size, h.block⟩
set_option maxHeartbeats 16000000 in
set_option maxRecDepth 100000 in
theorem slot_calls {w : World} {own : Nat → Prop} {b : Nat} {r : R} {nb : Nat} (h : IsRef w own b r nb) {M : Med} (hrel : Rel M r) (hstr : ∀ f i s, M.S f i = some s → s.size = 64) (file : Int) (hf : file = 0 ∨ file = 1) (hn : nb < 1000000000) :
    Calls Try.prog 52 #[.pointer (some ⟨b, 0, none⟩), .int .i64 file] w fun e w' => e = .returned (.tuple #[.int .i64 (rnum (rwhole M file)), .string ⟨(rdat (rwhole M file)).toArray⟩]) ∧ Below w.heap.size w w' := by
  obtain ⟨own0, ho0, hlt0⟩ : ∃ own0, IsRef w own0 b r nb ∧ ∀ i, own0 i → i < w.heap.size := ⟨_, h.restrict, fun i hi => hi.2⟩
  have H := Aside0.mk ho0
  have HLT0 := Aside0.mk hlt0
  have HS := Aside0.mk hstr
  clear h hstr ho0 hlt0
  have cread : ∀ {W}, IsRef W own0 b r nb → ∀ i, Calls Try.prog 64 #[.pointer (some ⟨b, 0, none⟩), .int .i64 file, .int .i64 i] W fun e w' => e = .returned (.tuple #[.string (M.read file i).1, .int .i64 (M.read file i).2]) ∧ W = w' := fun hW i => by
    have := Ref.read_calls hW file i hn
    rw [hrel.read] at this
    exact this.mono fun e w' h => ⟨h.1, h.2.symm⟩
  have HR := Aside0.mk @cread
  clear cread hrel
  obtain ⟨o, ho⟩ : ∃ o, o = rwhole M file := ⟨_, rfl⟩
  rw [← ho]
  unfold rwhole at ho
  obtain ⟨s, e0, hr⟩ : ∃ s e, M.read file 0 = (s, e) := ⟨_, _, rfl⟩
  rw [hr] at ho
  simp only [] at ho
  have hr0 := HR.out H.out 0
  rw [hr] at hr0
  have HO := Aside0.mk ho
  have HR0 := Aside0.mk hr
  clear ho hr
  go_enter Try.func52, Try.ntmps52
  by_cases h0 : e0 = 0
  · subst h0
    have h64 : s.size = 64 := by
      have hS := read_inv (j := 0) HR0.out
      exact HS.out _ _ _ hS.1
    have s0 : 0 < s.size := by omega
    have s1 : 1 < s.size := by omega
    have s2 : 2 < s.size := by omega
    have s3 : 3 < s.size := by omega
    have s6 : 6 < s.size := by omega
    have s7 : 7 < s.size := by omega
    obtain ⟨n, hnn⟩ : ∃ n, n = sN s.data.toList := ⟨_, rfl⟩
    obtain ⟨q, hq⟩ : ∃ q, q = sQ s.data.toList := ⟨_, rfl⟩
    have hnb := sN_bytes s s0 s1 s2 s3
    have hqb := sQ_bytes s s6 s7
    have hqr := sQ_range s.data.toList
    rw [← hnn] at hnb
    rw [← hq] at hqb hqr
    obtain ⟨c0, hc0⟩ : ∃ c : UInt8, s[0] = c := ⟨_, rfl⟩
    obtain ⟨c1, hc1⟩ : ∃ c : UInt8, s[1] = c := ⟨_, rfl⟩
    obtain ⟨c2, hc2⟩ : ∃ c : UInt8, s[2] = c := ⟨_, rfl⟩
    obtain ⟨c3, hc3⟩ : ∃ c : UInt8, s[3] = c := ⟨_, rfl⟩
    obtain ⟨c6, hc6⟩ : ∃ c : UInt8, s[6] = c := ⟨_, rfl⟩
    obtain ⟨c7, hc7⟩ : ∃ c : UInt8, s[7] = c := ⟨_, rfl⟩
    have x0 : ∀ W : World, (Instr.index 9 (.string s) (.int .i64 0)).run Try.prog W = .ok (.int .u8 (c0.toNat : Int)) W := fun W => by rw [← hc0]; exact run_index s 0 s0 W
    have x1 : ∀ W : World, (Instr.index 9 (.string s) (.int .i64 1)).run Try.prog W = .ok (.int .u8 (c1.toNat : Int)) W := fun W => by rw [← hc1]; exact run_index s 1 s1 W
    have x2 : ∀ W : World, (Instr.index 9 (.string s) (.int .i64 2)).run Try.prog W = .ok (.int .u8 (c2.toNat : Int)) W := fun W => by rw [← hc2]; exact run_index s 2 s2 W
    have x3 : ∀ W : World, (Instr.index 9 (.string s) (.int .i64 3)).run Try.prog W = .ok (.int .u8 (c3.toNat : Int)) W := fun W => by rw [← hc3]; exact run_index s 3 s3 W
    have x6 : ∀ W : World, (Instr.index 9 (.string s) (.int .i64 6)).run Try.prog W = .ok (.int .u8 (c6.toNat : Int)) W := fun W => by rw [← hc6]; exact run_index s 6 s6 W
    have x7 : ∀ W : World, (Instr.index 9 (.string s) (.int .i64 7)).run Try.prog W = .ok (.int .u8 (c7.toNat : Int)) W := fun W => by rw [← hc7]; exact run_index s 7 s7 W
    have t0 := c0.toNat_lt
    have t1 := c1.toNat_lt
    have t2 := c2.toNat_lt
    have t3 := c3.toNat_lt
    have t6 := c6.toNat_lt
    have t7 := c7.toNat_lt
    rw [hc0, hc1, hc2, hc3] at hnb
    rw [hc6, hc7] at hqb
    have HNB := Aside0.mk hnb
    have HQB := Aside0.mk hqb
    have HNQ := Aside0.mk (And.intro hnn hq)
    clear hc0 hc1 hc2 hc3 hc6 hc7 hnb hqb hnn hq s0 s1 s2 s3 s6 s7 h64
    go_upto_region 4 with (go_at_call 64; refine hr0.mono ?_; rintro e w' ⟨rfl, rfl⟩)
    clear hr0
    go_cut [8] (fun s8 wx => s8 = .int .i64 n ∧ ∃ m, wx = w.drewN m)
    case first =>
      go_quiet (fail)
      go_wp2
      go_meet
      exact ⟨congrArg (Value.int .i64) HNB.out.symm, _, rfl⟩
    case rest =>
    obtain ⟨rfl, m1, rfl⟩ := hcut
    go_upto_region 5 with (fail)
    go_cut [9] (fun s9 wx => s9 = .int .i64 q ∧ ∃ m, wx = w.drewN m)
    case first =>
      go_quiet (fail)
      go_wp2
      go_meet
      exact ⟨congrArg (Value.int .i64) HQB.out.symm, _, by rw [World.drewN_drewN]⟩
    case rest =>
    obtain ⟨rfl, m2, rfl⟩ := hcut
    clear x0 x1 x2 x3 x6 x7 t0 t1 t2 t3 t6 t7 HNB HQB
    have HI : Aside0 (IsRef (w.drewN m2) own0 b r nb ∧ Below w.heap.size w (w.drewN m2)) := ⟨H.out.below (drewN_below (Below.refl _ _) m2), drewN_below (Below.refl _ _) m2⟩
    generalize w.drewN m2 = w1 at *
    have HO2 : Aside0 (o = if n < 1 ∨ n > 2147483647 ∨ n % 2 ≠ file ∨ q < 1 then none else
      match col M file q.toNat 0 with
      | none => none
      | some D => if D.length > 1000000 ∨ scnt D.length ≠ q.toNat then none else
        if ∀ i, i < scnt D.length → (M.read file (i : Nat)).1 = ssec n D (scnt D.length) i then some (n, D) else none) := ⟨by
      have h := HO.out
      rw [if_neg (show ¬((0 : Int) ≠ 0) by simp), ← HNQ.out.1, ← HNQ.out.2] at h
      exact h⟩
    clear HO HNQ HR0
    by_cases b1 : n < 1
    · have e : o = none := by rw [HO2.out, if_pos (.inl b1)]
      subst e
      go_wp2
      go_ret2
      exact ⟨rfl, HI.out.2⟩
    by_cases b2 : n > 2147483647
    · have e : o = none := by rw [HO2.out, if_pos (.inr (.inl b2))]
      subst e
      go_wp2
      go_ret2
      exact ⟨rfl, HI.out.2⟩
    by_cases b3 : n % 2 = file
    · have b3b : (n % 2 != file) = false := by simp [b3]
      have B3 := Aside0.mk b3
      clear b3
      by_cases b4 : q < 1
      · have e : o = none := by rw [HO2.out, if_pos (.inr (.inr (.inr b4)))]
        subst e
        go_wp2
        go_ret2
        exact ⟨rfl, HI.out.2⟩
      · have HO3 : Aside0 (o = match col M file q.toNat 0 with
          | none => none
          | some D => if D.length > 1000000 ∨ scnt D.length ≠ q.toNat then none else
            if ∀ i, i < scnt D.length → (M.read file (i : Nat)).1 = ssec n D (scnt D.length) i then some (n, D) else none) := ⟨by
          rw [HO2.out, if_neg (by have := B3.out; omega)]⟩
        clear HO2
        obtain ⟨qn, rfl⟩ : ∃ qn : Nat, q = qn := ⟨q.toNat, by omega⟩
        rw [Int.toNat_natCast] at HO3
        have hq0 : 0 < qn := by omega
        have hqm : qn ≤ 65535 := by omega
        obtain ⟨i0, hi0, hz0, hz1, hz2⟩ := BldS.infoParts BldS.infoByte
        go_wp2
        go_loopw [10, 11] (fun v10 v11 wr => ∃ (i : Nat) (acc : List UInt8), i ≤ qn ∧ acc.length ≤ 53 * i ∧ v11 = .int .i64 i ∧ Aside0 (wr.ownsRow w.heap.size 5 1 v10 acc.length (Lib.byteCells acc)) ∧ Aside0 (IsRef wr own0 b r nb ∧ Below w.heap.size w wr) ∧ Aside0 (col M file qn 0 = (col M file (qn - i) i).map (acc ++ ·))) (fun _ v11 _ => qn - (intOf v11).toNat)
        case atStart => exact ⟨0, [], by omega, by simp, rfl, ⟨⟨rfl, .inl ⟨rfl, rfl⟩⟩⟩, ⟨HI.out⟩, ⟨by simp⟩⟩
        case round =>
          obtain ⟨i, acc, hi, hal, rfl, HW, HJ, HC⟩ := hrel
          clear HI
          by_cases hlt : i < qn
          · obtain ⟨si, ei, hri⟩ : ∃ s e, M.read file i = (s, e) := ⟨_, _, rfl⟩
            have hrd := HR.out HJ.out.1 i
            rw [hri] at hrd
            have HRI := Aside0.mk hri
            have HC1 : Aside0 (col M file qn 0 = (if ei = 0 ∧ sM si.data.toList ≤ 53 then (col M file (qn - (i + 1)) (i + 1)).map (sD si.data.toList ++ ·) else none).map (acc ++ ·)) := ⟨by
              rw [HC.out, show qn - i = (qn - (i + 1)) + 1 from by omega, col, hri]⟩
            clear HC hri
            by_cases he : ei = 0
            · subst he
              have h64 : si.size = 64 := by
                have hS := read_inv HRI.out
                exact HS.out _ _ _ hS.1
              have s8 : 8 < si.size := by omega
              obtain ⟨c, hc⟩ : ∃ c : UInt8, si[8] = c := ⟨_, rfl⟩
              have hix : ∀ W : World, (Instr.index 9 (.string si) (.int .i64 8)).run Try.prog W = .ok (.int .u8 (c.toNat : Int)) W := fun W => by rw [← hc]; exact run_index si 8 s8 W
              have hM : sM si.data.toList = c.toNat := by
                unfold sM
                rw [List.getD_eq_getElem?_getD, List.getElem?_eq_getElem (by rw [size_len]; exact s8), ← hc]
                rfl
              have hcl := c.toNat_lt
              have hcl' : (c.toNat : Int) < 256 := by omega
              by_cases hm : c.toNat ≤ 53
              · have hm' : (c.toNat : Int) ≤ 53 := by omega
                have hsz : (62 : Int) ≤ si.size := by omega
                have hs9 : 9 + (c.toNat : Int) ≤ si.size := by omega
                have hn9 : 9 + c.toNat ≤ si.size := by omega
                have hs90 : (0 : Int) ≤ (c.toNat : Int) := by omega
                have hs99 : (9 : Int) ≤ 9 + (c.toNat : Int) := by omega
                have HX : Aside0 (si.extract 9 (9 + c.toNat) = ⟨(sD si.data.toList).toArray⟩) := ⟨by rw [extract_mid, Nat.add_sub_cancel_left]; unfold sD; rw [hM]⟩
                have hDe : (sD si.data.toList).length = c.toNat := by unfold sD; rw [List.length_take, hM, List.length_drop, size_len]; omega
                have HDL := Aside0.mk hDe
                have hDl : (sD si.data.toList).length ≤ 53 := by omega
                clear hDe
                have HC2 : Aside0 (col M file qn 0 = (col M file (qn - (i + 1)) (i + 1)).map ((acc ++ sD si.data.toList) ++ ·)) := ⟨by
                  rw [HC1.out, if_pos ⟨rfl, by rw [hM]; exact hm⟩]
                  cases col M file (qn - (i + 1)) (i + 1) with
                  | none => rfl
                  | some z => simp⟩
                have hsx : (si.extract 9 (9 + c.toNat)).size ≤ 53 := by rw [HX.out, size_mk]; exact hDl
                clear h64 hc hM HC1
                have hjs := HJ.out.2.size
                go_wp2_with (first
                  | (go_at_call 64; refine hrd.mono ?_; rintro e w' ⟨rfl, rfl⟩)
                  | (at_builtin; refine Lib.wpList_append_own_string _ rfl _ _ 74 9 rfl w.heap.size 5 i0 Try.underlying74 Try.underlying9 hi0 hz0 hz1 hz2 _ _ _ rfl HW.out (si.extract 9 (9 + c.toNat)) rfl ?c3 ?c4 ?c5 ?_))
                case c3 => have : maxLen = 9223372036854775807 := rfl; omega
                case c4 => omega
                case c5 => exact hjs
                intro v' w2 hown hgrow _
                have HG : Aside0 (wr.grownBy w2 u10.ownBlock) := ⟨hgrow⟩
                have HW2 := Aside0.mk hown
                clear hown hgrow
                go_wp2
                go_roundw
                case rel =>
                  refine ⟨i + 1, acc ++ sD si.data.toList, by omega, by rw [List.length_append]; omega, by go_num, ⟨?_⟩, ⟨?_, ?_⟩, HC2⟩
                  · have := HW2.out
                    rw [HX.out, BldS.cells_str, show (⟨(sD si.data.toList).toArray⟩ : ByteArray).data.toList = sD si.data.toList from by simp, ← BldS.cells_app] at this
                    rw [List.length_append, HDL.out]
                    exact this
                  · exact HJ.out.1.same fun k hk ho => HG.out.block k hk (fun e => by have := (HW.out.lt k e.symm).1; have := HLT0.out k ho; omega)
                  · exact HJ.out.2.grown HG.out HJ.out.2.size (fun k hk => (HW.out.lt k hk).1)
                case measure => simp [intOf]; omega
              · have hm' : (c.toNat : Int) > 53 := by omega
                have e : o = none := by rw [HO3.out, HC1.out, if_neg (fun h => by have := h.2; omega)]; rfl
                subst e
                clear h64 hc hM HC1
                go_wp2_with (go_at_call 64; refine hrd.mono ?_; rintro e w' ⟨rfl, rfl⟩)
                go_ret2
                exact ⟨rfl, HJ.out.2⟩
            · have e : o = none := by rw [HO3.out, HC1.out, if_neg (fun h => he h.1)]; rfl
              subst e
              clear HC1
              go_wp2_with (go_at_call 64; refine hrd.mono ?_; rintro e w' ⟨rfl, rfl⟩)
              go_ret2
              exact ⟨rfl, HJ.out.2⟩
          · obtain rfl : i = qn := by omega
            have HC2 : Aside0 (col M file i 0 = some acc) := ⟨by rw [HC.out, Nat.sub_self]; simp [col]⟩
            clear HC
            have HO4 : Aside0 (o = if acc.length > 1000000 ∨ scnt acc.length ≠ i then none else
              if ∀ j, j < scnt acc.length → (M.read file (j : Nat)).1 = ssec n acc (scnt acc.length) j then some (n, acc) else none) := ⟨by rw [HO3.out, HC2.out]⟩
            clear HO3 HC2
            obtain ⟨A, c, hv, hcv⟩ : ∃ A c, u10 = .slice A acc.length c ∧ (convert 74 9 (.slice A acc.length c)).run Try.prog wr = .ok (.string ⟨acc.toArray⟩) wr := by
              have hw := HW.out
              rw [show Lib.byteCells acc = nums .u8 (ints acc) from by simp [Lib.byteCells, nums, ints]] at hw
              obtain ⟨A, c, hv, hrd⟩ := own_reads hw
              exact ⟨A, c, hv, by rw [string_of_reads Try.underlying74 Try.underlying5 Try.underlying9 hrd, str_ints]⟩
            subst hv
            have hlay := lay_calls n ⟨acc.toArray⟩ wr
            rw [size_mk] at hlay
            by_cases hbig : acc.length > 1000000
            · simp only [if_pos (show n < 1 ∨ n > 2147483647 ∨ acc.length > 1000000 from .inr (.inr hbig))] at hlay
              have e : o = none := by rw [HO4.out, if_pos (.inl hbig)]
              subst e
              clear hbig
              go_wp2_with (go_at_call 34; refine hlay.mono ?_; rintro e w' ⟨⟨A2, c2, rfl⟩, hbl⟩; have HB := Aside0.mk hbl; clear hbl)
              go_ret2
              exact ⟨rfl, HJ.out.2.trans (HB.out.mono HJ.out.2.size)⟩
            · simp only [if_neg (show ¬(n < 1 ∨ n > 2147483647 ∨ acc.length > 1000000) by omega)] at hlay
              by_cases hcnt : scnt acc.length = i
              · have hcb : (((scnt acc.length : Nat) : Int) != (i : Int)) = false := by rw [hcnt]; simp
                have HO5 : Aside0 (o = if ∀ j, j < i → (M.read file (j : Nat)).1 = ssec n acc i j then some (n, acc) else none) := ⟨by rw [HO4.out, if_neg (by omega), hcnt]⟩
                rw [hcnt] at hlay
                clear HO4 hcb
                have HCN := Aside0.mk hcnt
                clear hcnt hbig
                go_upto_region 20 with (go_at_call 34; refine hlay.mono ?_; rintro e wL ⟨⟨A2, c2, rfl, hsx⟩, hbl⟩; have HB := Aside0.mk (And.intro hbl hsx); clear hbl hsx)
                have HRL : Aside0 (IsRef wL own0 b r nb) := ⟨HJ.out.1.below HB.out.1⟩
                clear hlay
                obtain ⟨x, hx, hx1, hx2, hx3⟩ := HB.out.2.cell
                subst hx
                have hcap := HB.out.2.cap
                have hxa : (⟨acc.toArray⟩ : ByteArray).data.toList = acc := by simp
                simp only [hxa, HCN.out] at hx3 hcap
                have HX3 := Aside0.mk hx3
                clear hx1 hx2 hx3 hxa
                go_wp2
                go_loop [16] (fun v16 => ∃ j : Nat, j ≤ i ∧ v16 = .int .i64 j ∧ Aside0 (∀ k, k < j → (M.read file (k : Nat)).1 = ssec n acc i k)) (fun v16 => i - (intOf v16).toNat)
                case atStart => exact ⟨0, by omega, rfl, ⟨fun k hk => by omega⟩⟩
                case round =>
                  obtain ⟨j, hj, rfl, HK⟩ := hrel
                  by_cases hjl : j < i
                  · obtain ⟨sj, ej, hrj⟩ : ∃ s e, M.read file j = (s, e) := ⟨_, _, rfl⟩
                    have hrd := HR.out HRL.out j
                    rw [hrj] at hrd
                    have HRJ := Aside0.mk hrj
                    clear hrj
                    have hcell := HX3.out j hjl
                    by_cases hs : sj = ssec n acc i j
                    · have HSJ := Aside0.mk hs
                      have hsb : (sj.toList == (ssec n acc i j).toList) = true := by rw [hs]; simp
                      clear hs
                      go_wp2_with (go_at_call 64; refine hrd.mono ?_; rintro e w' ⟨rfl, rfl⟩)
                      go_round
                      case rel =>
                        refine ⟨j + 1, by omega, by go_num, ⟨fun k hk => ?_⟩⟩
                        by_cases hkj : k = j
                        · rw [hkj, HRJ.out]; exact HSJ.out
                        · exact HK.out k (by omega)
                      case measure => simp [intOf]; omega
                    · have hsb : (sj.toList == (ssec n acc i j).toList) = false := by rw [beq_eq_false_iff_ne]; exact fun h => hs (ba_ext (by rw [← ByteArray.toList_eq, ← ByteArray.toList_eq]; exact h))
                      have e : o = none := by rw [HO5.out, if_neg (fun h => hs (by have := h j hjl; rw [HRJ.out] at this; exact this))]
                      subst e
                      clear hs
                      go_wp2_with (go_at_call 64; refine hrd.mono ?_; rintro e w' ⟨rfl, rfl⟩)
                      go_ret2
                      exact ⟨rfl, HJ.out.2.trans (HB.out.1.mono HJ.out.2.size)⟩
                  · have e : o = some (n, acc) := by rw [HO5.out, if_pos (fun k hk => HK.out k (by omega))]
                    subst e
                    go_wp2
                    go_ret2
                    exact ⟨rfl, HJ.out.2.trans (HB.out.1.mono HJ.out.2.size)⟩
              · have hcb : (((scnt acc.length : Nat) : Int) != (i : Int)) = true := by simp; omega
                have e : o = none := by rw [HO4.out, if_pos (.inr hcnt)]
                subst e
                clear hcnt hbig
                go_wp2_with (go_at_call 34; refine hlay.mono ?_; rintro e w' ⟨⟨A2, c2, rfl, hsx⟩, hbl⟩; have HB := Aside0.mk hbl; clear hbl hsx)
                go_ret2
                exact ⟨rfl, HJ.out.2.trans (HB.out.mono HJ.out.2.size)⟩
    · have b3b : (n % 2 != file) = true := by simp [b3]
      have e : o = none := by rw [HO2.out, if_pos (.inr (.inr (.inl b3)))]
      subst e
      clear b3
      go_wp2
      go_ret2
      exact ⟨rfl, HI.out.2⟩
  · have e : o = none := by rw [HO.out, if_pos h0]
    subst e
    go_wp2_with (go_at_call 64; refine hr0.mono ?_; rintro e w' ⟨rfl, rfl⟩)
    go_ret2
    exact ⟨rfl, Below.refl _ _⟩
set_option maxHeartbeats 16000000 in
set_option maxRecDepth 100000 in
theorem load_calls {w : World} {own : Nat → Prop} {b : Nat} {r : R} {nb : Nat} (h : IsRef w own b r nb) {M : Med} (hrel : Rel M r) (hstr : ∀ f i s, M.S f i = some s → s.size = 64) (hn : nb < 1000000000) :
    Calls Try.prog 33 #[.pointer (some ⟨b, 0, none⟩)] w fun e w' => e = .returned (.tuple #[.int .i64 (rload M).1, .string ⟨(rload M).2.1.toArray⟩, .int .i64 (rload M).2.2]) ∧ Below w.heap.size w w' := by
  have c0 := slot_calls h hrel hstr 0 (.inl rfl) hn
  have c1 : ∀ w', Below w.heap.size w w' → Calls Try.prog 52 #[.pointer (some ⟨b, 0, none⟩), .int .i64 1] w' fun e w'' => e = .returned (.tuple #[.int .i64 (rnum (rwhole M 1)), .string ⟨(rdat (rwhole M 1)).toArray⟩]) ∧ Below w'.heap.size w' w'' := fun w' k => slot_calls (h.below k) hrel hstr 1 (.inr rfl) hn
  obtain ⟨P, hP⟩ : ∃ P, P = rload M := ⟨_, rfl⟩
  rw [← hP]
  unfold rload at hP
  have HP := Aside0.mk hP
  have HC1 := Aside0.mk c1
  clear hP h hrel hstr c1
  generalize rnum (rwhole M 0) = a at *
  generalize rdat (rwhole M 0) = s at *
  generalize rnum (rwhole M 1) = a1 at *
  generalize rdat (rwhole M 1) = s1 at *
  by_cases h0 : a = 0 ∧ a1 = 0
  · obtain ⟨rfl, rfl⟩ := h0
    have e : P = (0, [], 41) := by rw [HP.out, if_pos ⟨rfl, rfl⟩]
    subst e
    go_enter Try.func33, Try.ntmps33
    go_wp2_with (fail)
    refine c0.mono ?_
    rintro e w1 ⟨rfl, hb1⟩
    have HB1 := Aside0.mk hb1
    clear hb1
    go_wp2_with (fail)
    refine (HC1.out _ HB1.out).mono ?_
    rintro e w2 ⟨rfl, hb2⟩
    have HB2 := Aside0.mk hb2
    clear hb2 c0
    go_wp2
    go_ret3
    exact ⟨rfl, HB1.out.trans (HB2.out.mono HB1.out.size)⟩
  · have hc : (a == 0) = false ∨ (a == 0) = true ∧ (a1 == 0) = false := by
      by_cases h1 : a = 0
      · exact .inr ⟨by simp [h1], by simp; exact fun h2 => h0 ⟨h1, h2⟩⟩
      · exact .inl (by simp [h1])
    have HP2 : Aside0 (P = if a > a1 then (a, s, 0) else (a1, s1, 0)) := ⟨by rw [HP.out, if_neg h0]⟩
    clear h0 HP
    rcases Decidable.em (a > a1) with hg | hg
    · have e : P = (a, s, 0) := by rw [HP2.out, if_pos hg]
      subst e
      rcases hc with t1 | ⟨t1, t2⟩
      all_goals
        go_enter Try.func33, Try.ntmps33
        go_wp2_with (fail)
        refine c0.mono ?_
        rintro e w1 ⟨rfl, hb1⟩
        have HB1 := Aside0.mk hb1
        clear hb1
        go_wp2_with (fail)
        refine (HC1.out _ HB1.out).mono ?_
        rintro e w2 ⟨rfl, hb2⟩
        have HB2 := Aside0.mk hb2
        clear hb2 c0
        go_wp2
        go_ret3
        exact ⟨rfl, HB1.out.trans (HB2.out.mono HB1.out.size)⟩
    · have e : P = (a1, s1, 0) := by rw [HP2.out, if_neg hg]
      subst e
      rcases hc with t1 | ⟨t1, t2⟩
      all_goals
        go_enter Try.func33, Try.ntmps33
        go_wp2_with (fail)
        refine c0.mono ?_
        rintro e w1 ⟨rfl, hb1⟩
        have HB1 := Aside0.mk hb1
        clear hb1
        go_wp2_with (fail)
        refine (HC1.out _ HB1.out).mono ?_
        rintro e w2 ⟨rfl, hb2⟩
        have HB2 := Aside0.mk hb2
        clear hb2 c0
        go_wp2
        go_ret3
        exact ⟨rfl, HB1.out.trans (HB2.out.mono HB1.out.size)⟩
end Go.Proofs.Ytojehachhfcfaaa.Ref06
