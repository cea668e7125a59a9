/- Of one claim's parts: Size, MedN, AtX, Lst, MedX. -/
import Derived.Maps.RangeWalk
import Derived.Laws.IdiomRangeMap
import Derived.Test.YtdjcaogffppdhaaLogMedF
import Derived.Laws.OwnMore
import Derived.Deep.AppendLies
import Derived.Deep.QuietTactic
import Derived.BigQuiet
set_option linter.unusedVariables false
set_option linter.unusedSimpArgs false
namespace Go.Proofs.Ytdjcaogffppdhaa.Med
open Go.RowKit Go.ChangeMaps Go.Proofs.Ytdjcaogffppdhaa.IMap Go.Proofs.YtdjcaogffppdhaaW.PrintWords Go.Proofs.YtdjcaogffppdhaaW.PrintLast Go.Proofs.YtdjcaogffppdhaaW.PrintMore
open Go.Maps (Keyed)
attribute [local go_sem] max2_int min2_int max_two min_two
/-- r is how many sectors file f has, up to the last one. -/
structure IsSize (M : Med) (f r : Int) : Prop where
  lo : 0 ≤ r
  hi : r ≤ 65536
  up : ∀ i s, M.S f i = some s → i + 1 ≤ r
  at_ : r = 0 ∨ ∃ s, M.S f (r - 1) = some s
/-- The sectors' numbers are those that sectors may have. -/
def Ranged (M : Med) : Prop := ∀ f i s, M.S f i = some s → 0 ≤ f ∧ f < 1048576 ∧ 0 ≤ i ∧ i < 65536
theorem Ranged.new : Ranged Med.new := fun _ _ _ h => by cases h
theorem Ranged.write {M : Med} (h : Ranged M) (f i : Int) (s : ByteArray) : Ranged (M.write f i s).1 := by
  unfold Med.write
  split
  · rename_i h0
    obtain ⟨a, b, c, d, _⟩ := ready_zero h0
    have hsp : M.spend.1.S = M.S := by unfold Med.spend; split <;> rfl
    split
    · intro g j t ht
      have e : ((M.spend.1.made f).put f i s).S g j = if g = f ∧ j = i then some s else M.spend.1.S g j := rfl
      simp only [] at ht
      rw [e, hsp] at ht
      split at ht
      · rename_i hc
        obtain ⟨rfl, rfl⟩ := hc
        exact ⟨a, b, c, d⟩
      · exact h g j t ht
    · intro g j t ht
      rw [hsp] at ht
      exact h g j t ht
  · exact h
theorem Ranged.arm {M : Med} (h : Ranged M) (x : Int) : Ranged (M.arm x) := h
theorem Ranged.on {M : Med} (h : Ranged M) : Ranged M.on := h
theorem same_key {i x : Int} (h : i ≠ x) : (key i).sameKey (key x) = false := by
  unfold key
  simp [Lit.sameKey, h]
theorem law_int : Keyed Try.prog 3 := Maps.int_keyed Try.underlying3
theorem invS {v : Value} {y : D0 × List MemPlace} (h : RS v = some y) : ∃ c, v = Value.string c := by
  unfold RS at h
  obtain ⟨c, rfl, _⟩ := plainElem_string_inv Try.underlying9 h
  exact ⟨c, rfl⟩
set_option maxHeartbeats 4000000 in
set_option maxRecDepth 100000 in
theorem size_nil (f : Int) (w : World) : Calls Try.prog 15 #[.pointer none, .int .i64 f] w fun e w' => e = .returned (.int .i64 0) ∧ w = w' := by
  go_enter Try.func15, Try.ntmps15
  go_wp2
  go_ret
  exact ⟨rfl, rfl⟩
/-- What the loop has seen so far. -/
structure Seen (D : D0) (M : Med) (f r : Int) (left : Lit → Bool) : Prop where
  lo : 0 ≤ r
  hi : r ≤ 65536
  sub : ∀ kl, left kl = true → Maps.has D kl = true
  up : ∀ i, (key i).wf = true → Maps.has D (key i) = true → left (key i) = true ∨ i + 1 ≤ r
  at_ : r = 0 ∨ ∃ s, M.S f (r - 1) = some s
theorem Seen.step {D : D0} {M : Med} {f r : Int} {left : Lit → Bool} (h : Seen D M f r left) {x : Int} (hx : left (key x) = true) (hw : (key x).wf = true) (hD : Reads D (FS M.S f)) (hok : Ranged M) : 0 ≤ x ∧ x < 65536 ∧ Seen D M f (if r < x + 1 then x + 1 else r) (fun z => left z && !z.sameKey (key x)) := by
  have h1 := h.sub _ hx
  rw [(hD.2 x hw).1] at h1
  obtain ⟨s, hs⟩ : ∃ s, M.S f x = some s := by
    unfold FS at h1
    cases hS : M.S f x with
    | none => rw [hS] at h1; cases h1
    | some s => exact ⟨s, rfl⟩
  obtain ⟨_, _, a, b⟩ := hok f x s hs
  have := h.lo
  have := h.hi
  refine ⟨a, b, by split <;> omega, by split <;> omega, fun kl hk => ?_, fun i hi hhas => ?_, ?_⟩
  · simp only [Bool.and_eq_true] at hk
    exact h.sub kl hk.1
  · rcases h.up i hi hhas with h2 | h2
    · by_cases e : i = x
      · right; subst e; split <;> omega
      · left; simp only [h2, same_key e]; rfl
    · right; split <;> omega
  · split
    · right; exact ⟨s, by rw [show x + 1 - 1 = x from by omega]; exact hs⟩
    · exact h.at_
set_option maxHeartbeats 16000000 in
set_option maxRecDepth 100000 in
theorem size_calls {w : World} {own : Nat → Prop} {b : Nat} {M : Med} {n : Nat} (h : IsMed w own b M n) (hok : Ranged M) (f : Int) (hf : (Lit.int .i64 f).wf = true) :
    Calls Try.prog 15 #[.pointer (some ⟨b, 0, none⟩), .int .i64 f] w fun e w' => ∃ r, e = .returned (.int .i64 r) ∧ IsSize M f r ∧ Below w.heap.size w w' := by
  have hu := Try.underlying67
  obtain ⟨g, F, r, o1, o2, o3⟩ := h
  have hfile := r.file hf
  have c0 : w.cell? ⟨b, 0, none⟩ = some (.map (some g)) := by have := r.hb; simp [World.cell?, this]
  cases hF : F f with
  | none =>
    rw [hF] at hfile
    have hS : ∀ i, M.S f i = none := (r.no f hF).2
    have HS := Aside0.mk hS
    clear hS hF r o1 o2 o3
    have hrg := run_range_nilMap (P := Try.prog) w 71 3 9 Try.underlying71
    have hnx : ∀ ty, (Instr.next (.pointer (some ⟨w.heap.size, 0, none⟩)) false ty).run Try.prog (w.alloc (.mapIter none 0 #[] 0)) = _ := fun ty => run_next_nilMap w ty 0 0 #[]
    go_enter Try.func15, Try.ntmps15
    go_wp2
    refine wp_loop_rounds 1 ?_
    rw [rounds_succ]
    go_wp2
    go_ret
    exact ⟨0, rfl, ⟨by omega, by omega, (fun i s h => by rw [HS.out i] at h; cases h), .inl rfl⟩, (Below.refl _ w).alloc (Nat.le_refl _) _⟩
  | some h =>
    rw [hF] at hfile
    obtain ⟨D, hown, hD⟩ := (r.hf f h hF).2
    have HD := Aside0.mk hD
    have HO := Aside0.mk hok
    clear hF r o1 o2 o3 hD hok
    go_enter Try.func15, Try.ntmps15
    go_wp2_with (first
      | (at_range; refine wpList_range_own _ rfl _ 71 rfl 3 9 law_int Try.underlying71 _ h n _ rfl hown ?_; intro w0 hrg0 hg0 hs0)
      | go_in)
    go_frame
    have HG0 := Aside0.mk hg0
    have HR0 := Aside0.mk hrg0
    clear hg0 hrg0 hs0
    go_loopw [5] (fun v5 wr => ∃ (q : Int) (left : Lit → Bool) (cnt : Nat), v5 = .int .i64 q ∧ Aside0 (Seen D M f q left) ∧ Aside0 (wr.ranges Try.prog 3 RS h w.heap.size n D left cnt) ∧ Aside0 (w.grownBy wr none))
      (fun _ wr => wr.rangeLeft h w.heap.size)
    case atStart => exact ⟨0, _, _, rfl, ⟨by omega, by omega, fun kl hk => hk, fun i _ hh => .inl hh, .inl rfl⟩, ⟨HR0.out⟩, ⟨HG0.out⟩⟩
    case round =>
      obtain ⟨q, left, cnt, rfl, HS, HR, HG⟩ := hrel
      clear HR0 HG0
      have hrg := HR.out
      go_wp2_with (first
        | (at_next; refine wpList_next_ranges _ rfl _ rfl 3 law_int RS (Value.int .i64) Value.string (fun key kl hk => by obtain ⟨x, rfl, _⟩ := Maps.keyOf_int_inv Try.underlying3 hk; exact ⟨x, rfl⟩) (fun v y hv => invS hv) h w.heap.size n _ _ _ rfl hrg ?_ ?_)
        | go_in)
      · intro hc0 hl0
        clear hrg
        have HL0 := Aside0.mk hl0
        clear hl0
        go_wp2
        go_ret
        refine ⟨q, rfl, ⟨HS.out.lo, HS.out.hi, fun i s hs => ?_, HS.out.at_⟩, ⟨HG.out.os, HG.out.tape, HG.out.output, HG.out.size, fun i hi => HG.out.block i hi (by simp)⟩⟩
        obtain ⟨_, _, a, b⟩ := HO.out f i s hs
        have hw : (key i).wf = true := wf_small (by omega) (by omega)
        have hhas : Maps.has D (key i) = true := by rw [(HD.out.2 i hw).1]; unfold FS; rw [hs]; rfl
        rcases HS.out.up i hw hhas with h1 | h1
        · rw [HL0.out] at h1; cases h1
        · exact h1
      · intro x c kl y ps w1 cnt1 hkey hlx hv hat hrg1 hlt hg1 hs1 hen
        obtain ⟨x', e', rfl, hwx⟩ := Maps.keyOf_int_inv Try.underlying3 hkey
        cases e'
        obtain ⟨hx0, hx1, hseen⟩ := HS.out.step hlx hwx HD.out HO.out
        have HSN := Aside0.mk hseen
        have HRN := Aside0.mk hrg1
        have HGN : Aside0 (w.grownBy w1 none) := ⟨⟨hg1.os.trans HG.out.os, hg1.tape.trans HG.out.tape, hg1.output.trans HG.out.output, Nat.le_trans HG.out.size hg1.size, fun i hi _ => (hg1.block i (Nat.lt_of_lt_of_le hi HG.out.size) (by simp; omega)).trans (HG.out.block i hi (by simp))⟩⟩
        have HLT := Aside0.mk hlt
        have q0 := HS.out.lo
        have q1 := HS.out.hi
        clear hseen hrg1 hg1 hs1 hlt hrg hat hv hkey hlx
        go_wp2
        go_roundw
        case rel => exact ⟨_, _, cnt1, rfl, HSN, HRN, HGN⟩
        case measure => rw [HRN.out.left_eq, HR.out.left_eq]; exact HLT.out
end Go.Proofs.Ytdjcaogffppdhaa.Med
namespace Go.Proofs.Ytdjcaogffppdhaa.Med
open Go.RowKit Go.ChangeMaps Go.Proofs.Ytdjcaogffppdhaa.IMap Go.Proofs.YtdjcaogffppdhaaW.PrintWords Go.Proofs.YtdjcaogffppdhaaW.PrintLast Go.Proofs.YtdjcaogffppdhaaW.PrintMore
attribute [local go_sem] max2_int min2_int max_two min_two
set_option maxHeartbeats 4000000 in
set_option maxRecDepth 100000 in
theorem arm_nil (x : Int) (w : World) : Calls Try.prog 11 #[.pointer none, .int .i64 x] w fun e w' => e = .returned (.tuple #[]) ∧ w = w' := by
  go_enter Try.func11, Try.ntmps11
  go_wp2
  go_end0
  exact ⟨rfl, rfl⟩
set_option maxHeartbeats 4000000 in
set_option maxRecDepth 100000 in
theorem on_nil (w : World) : Calls Try.prog 24 #[.pointer none] w fun e w' => e = .returned (.tuple #[]) ∧ w = w' := by
  go_enter Try.func24, Try.ntmps24
  go_wp2
  go_end0
  exact ⟨rfl, rfl⟩
set_option maxHeartbeats 4000000 in
set_option maxRecDepth 100000 in
theorem writes_nil (w : World) : Calls Try.prog 14 #[.pointer none] w fun e w' => e = .returned (.int .i64 0) ∧ w = w' := by
  go_enter Try.func14, Try.ntmps14
  go_wp2
  go_ret
  exact ⟨rfl, rfl⟩
set_option maxHeartbeats 4000000 in
set_option maxRecDepth 100000 in
theorem read_nil (f i : Int) (w : World) : Calls Try.prog 21 #[.pointer none, .int .i64 f, .int .i64 i] w fun e w' => e = .returned (.tuple #[.string ⟨#[]⟩, .int .i64 2]) ∧ w = w' := by
  go_enter Try.func21, Try.ntmps21
  go_wp2_with (go_at_call 39; refine (ready_nil f i 64 _).mono ?_; rintro e w' ⟨rfl, rfl⟩)
  go_ret2
  exact ⟨rfl, rfl⟩
set_option maxHeartbeats 4000000 in
set_option maxRecDepth 100000 in
theorem write_nil (f i : Int) (s : ByteArray) (hs : s.size ≤ 9223372036854775807) (w : World) : Calls Try.prog 12 #[.pointer none, .int .i64 f, .int .i64 i, .string s] w fun e w' => e = .returned (.int .i64 2) ∧ w = w' := by
  go_enter Try.func12, Try.ntmps12
  go_wp2_with (go_at_call 39; refine (ready_nil f i _ _).mono ?_; rintro e w' ⟨rfl, rfl⟩)
  go_ret
  exact ⟨rfl, rfl⟩
end Go.Proofs.Ytdjcaogffppdhaa.Med
namespace Go.Proofs.Ytdjcaogffppdhaa.AtX
open Go.RowKit Go.Proofs.YtdjcaogffppdhaaW.PrintWords Go.Proofs.YtdjcaogffppdhaaW.PrintLast Go.Proofs.YtdjcaogffppdhaaW.PrintMore
open Go.Proofs.Ytdjcaogffppdhaa.Med (IsMed Med Ranged IsSize)
/-- The media at b, made behind the world w0; X: blocks that are not its own. -/
structure AtX (w0 : World) (X : Nat → Prop) (b : Nat) (M : Med) (n : Nat) (w : World) : Prop where
  med : ∃ own, IsMed w own b M n ∧ ∀ i, own i → w0.heap.size ≤ i ∧ i < w.heap.size ∧ ¬X i
  lt : ∀ i, X i → i < w.heap.size
  below : Below w0.heap.size w0 w
def Same (X : Nat → Prop) (w w' : World) : Prop := ∀ i, X i → w'.heap[i]? = w.heap[i]?
/-- What a call has made of a media. -/
def Left (own : Nat → Prop) (b : Nat) (w : World) (M : Med) (n : Nat) (w' : World) : Prop := ∃ own', IsMed w' own' b M n ∧ (∀ j, own' j → own j ∨ w.heap.size ≤ j) ∧ Med.Frame own w w'
theorem restrict {w : World} {own : Nat → Prop} {b : Nat} {M : Med} {n : Nat} (h : IsMed w own b M n) : IsMed w (fun i => own i ∧ i < w.heap.size) b M n := h.weaken fun i hi ho => ⟨ho, hi⟩
theorem AtX.mk' {w0 w : World} {X : Nat → Prop} {b : Nat} {M : Med} {n : Nat} (h : IsMed w (fun i => w0.heap.size ≤ i) b M n) (hX : ∀ i, X i → i < w0.heap.size) (hb : Below w0.heap.size w0 w) : AtX w0 X b M n w :=
  ⟨⟨_, restrict h, fun i hi => ⟨hi.1, hi.2, fun hx => by have := hX i hx; have := hi.1; omega⟩⟩, fun i hx => by have := hX i hx; have := hb.size; omega, hb⟩
theorem AtX.new (w : World) : Calls Try.prog 10 #[] w fun e w' => ∃ b, e = .returned (.pointer (some ⟨b, 0, none⟩)) ∧ AtX w (fun _ => False) b Med.new 0 w' :=
  (Med.New_calls w).mono fun e w' ⟨b, he, h1, h2⟩ => ⟨b, he, AtX.mk' h1 (fun i h => h.elim) h2⟩
section
variable {w0 w : World} {X : Nat → Prop} {b : Nat} {M : Med} {n : Nat}
/-- A thing is made anew, behind the media. -/
theorem AtX.more (h : AtX w0 X b M n w) {w' : World} (k : Below w.heap.size w w') (Y : Nat → Prop) (hY : ∀ i, Y i → (X i ∨ w.heap.size ≤ i) ∧ i < w'.heap.size) : AtX w0 Y b M n w' := by
  obtain ⟨own, hm, ho⟩ := h.med
  refine ⟨⟨own, hm.below k, fun i hi => ?_⟩, fun i hi => (hY i hi).2, h.below.trans (k.mono h.below.size)⟩
  obtain ⟨a, c, d⟩ := ho i hi
  refine ⟨a, Nat.lt_of_lt_of_le c k.size, fun hy => ?_⟩
  rcases (hY i hy).1 with h1 | h1
  · exact d h1
  · omega
theorem AtX.after (h : AtX w0 X b M n w) {w' : World} (k : Below w.heap.size w w') : AtX w0 X b M n w' := h.more k X fun i hi => ⟨.inl hi, Nat.lt_of_lt_of_le (h.lt i hi) k.size⟩
theorem Same.below (h : ∀ i, X i → i < w.heap.size) {w' : World} (k : Below w.heap.size w w') : Same X w w' := fun i hi => k.block i (h i hi)
theorem Same.trans {w1 w2 : World} (h : Same X w w1) (k : Same X w1 w2) : Same X w w2 := fun i hi => (k i hi).trans (h i hi)
/-- The other things turn, the media stays. -/
theorem AtX.beside (h : AtX w0 X b M n w) {w' : World} (fr : Med.Frame X w w') (Y : Nat → Prop) (hY : ∀ i, Y i → (X i ∨ w.heap.size ≤ i) ∧ i < w'.heap.size) (hb : Below w0.heap.size w0 w') : AtX w0 Y b M n w' := by
  obtain ⟨own, hm, ho⟩ := h.med
  refine ⟨⟨own, hm.frame fr fun i hi => (ho i hi).2.2, fun i hi => ?_⟩, fun i hi => (hY i hi).2, hb⟩
  obtain ⟨a, c, d⟩ := ho i hi
  refine ⟨a, Nat.lt_of_lt_of_le c fr.size, fun hy => ?_⟩
  rcases (hY i hy).1 with h1 | h1
  · exact d h1
  · omega
theorem AtX.mono (h : AtX w0 X b M n w) {n' : Nat} (k : n ≤ n') : AtX w0 X b M n' w := by
  obtain ⟨own, hm, ho⟩ := h.med
  exact ⟨⟨own, hm.mono k, ho⟩, h.lt, h.below⟩
theorem AtX.left (h : AtX w0 X b M n w) {own : Nat → Prop} (ho : ∀ i, own i → w0.heap.size ≤ i ∧ i < w.heap.size ∧ ¬X i) {M' : Med} {n' : Nat} {w' : World} (k : Left own b w M' n' w') : AtX w0 X b M' n' w' ∧ Same X w w' := by
  obtain ⟨own', m, hj, fr⟩ := k
  have hs := h.below.size
  refine ⟨⟨⟨_, restrict m, fun i hi => ?_⟩, fun i hi => Nat.lt_of_lt_of_le (h.lt i hi) fr.size, h.below.trans (fr.below hs fun i hi => (ho i hi).1)⟩, fun i hi => fr.block i (h.lt i hi) fun h1 => (ho i h1).2.2 hi⟩
  rcases hj i hi.1 with h1 | h1
  · exact ⟨(ho i h1).1, hi.2, (ho i h1).2.2⟩
  · exact ⟨by omega, hi.2, fun hx => by have := h.lt i hx; omega⟩
theorem AtX.framed (h : AtX w0 X b M n w) {own : Nat → Prop} (ho : ∀ i, own i → w0.heap.size ≤ i ∧ i < w.heap.size ∧ ¬X i) {M' : Med} {n' : Nat} {w' : World} (m : IsMed w' own b M' n') (fr : Med.Frame own w w') : AtX w0 X b M' n' w' ∧ Same X w w' :=
  h.left ho ⟨own, m, fun j hj => .inl hj, fr⟩
theorem AtX.arm_calls (h : AtX w0 X b M n w) (x : Int) (hx : x ≤ 9223372036854775807) : Calls Try.prog 11 #[.pointer (some ⟨b, 0, none⟩), .int .i64 x] w fun e w' => e = .returned (.tuple #[]) ∧ AtX w0 X b (M.arm x) n w' ∧ Same X w w' := by
  obtain ⟨own, hm, ho⟩ := h.med
  exact (Med.arm_calls hm x hx).mono fun e w' ⟨he, hm', hf⟩ => ⟨he, h.framed ho hm' hf⟩
theorem AtX.on_calls (h : AtX w0 X b M n w) : Calls Try.prog 24 #[.pointer (some ⟨b, 0, none⟩)] w fun e w' => e = .returned (.tuple #[]) ∧ AtX w0 X b M.on n w' ∧ Same X w w' := by
  obtain ⟨own, hm, ho⟩ := h.med
  exact (Med.on_calls hm).mono fun e w' ⟨he, hm', hf⟩ => ⟨he, h.framed ho hm' hf⟩
theorem AtX.write_calls (h : AtX w0 X b M n w) (f i : Int) (s : ByteArray) (hs : s.size ≤ 9223372036854775807) (hn : n < 4611686018427380000) :
    Calls Try.prog 12 #[.pointer (some ⟨b, 0, none⟩), .int .i64 f, .int .i64 i, .string s] w fun e w' => e = .returned (.int .i64 (M.write f i s).2) ∧ AtX w0 X b (M.write f i s).1 (n + 3) w' ∧ Same X w w' := by
  obtain ⟨own, hm, ho⟩ := h.med
  exact (Med.write_calls hm f i s hs hn).mono fun e w' ⟨own', he, hm', hj, hf⟩ => ⟨he, h.left ho ⟨own', hm', hj, hf⟩⟩
theorem AtX.read_calls (h : AtX w0 X b M n w) (f i : Int) : Calls Try.prog 21 #[.pointer (some ⟨b, 0, none⟩), .int .i64 f, .int .i64 i] w fun e w' => e = .returned (.tuple #[.string (M.read f i).1, .int .i64 (M.read f i).2]) ∧ ∃ m, w' = w.drewN m := by
  obtain ⟨own, hm, ho⟩ := h.med
  exact Med.read_calls hm f i
theorem AtX.writes_calls (h : AtX w0 X b M n w) : Calls Try.prog 14 #[.pointer (some ⟨b, 0, none⟩)] w fun e w' => e = .returned (.int .i64 M.writes) ∧ w' = w := by
  obtain ⟨own, hm, ho⟩ := h.med
  exact Med.writes_calls hm
theorem AtX.size_calls (h : AtX w0 X b M n w) (hok : Ranged M) (f : Int) (hf : (Lit.int .i64 f).wf = true) : Calls Try.prog 15 #[.pointer (some ⟨b, 0, none⟩), .int .i64 f] w fun e w' => ∃ r, e = .returned (.int .i64 r) ∧ IsSize M f r ∧ AtX w0 X b M n w' ∧ Same X w w' := by
  obtain ⟨own, hm, ho⟩ := h.med
  exact (Med.size_calls hm hok f hf).mono fun e w' ⟨r, he, hr, hb⟩ => ⟨r, he, hr, h.after hb, Same.below h.lt hb⟩
end
end Go.Proofs.Ytdjcaogffppdhaa.AtX
namespace Go.Proofs.Ytdjcaogffppdhaa.Lst
open Go.RowKit Go.Proofs.YtdjcaogffppdhaaW.PrintWords Go.Proofs.YtdjcaogffppdhaaW.PrintLast Go.Proofs.YtdjcaogffppdhaaW.PrintMore
/-- v is a slice that holds the numbers l, in block g. -/
def Lst (w : World) (v : Value) (l : List Int) : Prop :=
  (v = .slice none 0 0 ∧ l = []) ∨ ∃ g c, v = .slice (some ⟨g, 0, none⟩) l.length c ∧ g < w.heap.size ∧ l.length ≤ c ∧ c ≤ 9223372036854775807 ∧ ∀ j, j < l.length → w.cell? ⟨g, j, none⟩ = some (.int .i64 (l.getD j 0))
theorem Lst.of_row {w : World} {B : Nat} {e : TypeId} {v : Value} {l : List Int} (h : w.ownsRow B e 1 v l.length (l.map (Value.int .i64))) : Lst w v l := by
  rcases h.2 with ⟨e, h0⟩ | ⟨g, cap, cur, e, hb, hg, h1, h2, h3, h4⟩
  · exact .inl ⟨e, List.eq_nil_of_length_eq_zero h0⟩
  · refine .inr ⟨g, cap, e, (Array.getElem?_eq_some_iff.1 hg).1, h1, h2, fun j hj => ?_⟩
    subst e
    rw [h.cellAt j (by omega)]
    simp [List.getD_eq_getElem?_getD, hj]
theorem Lst.same {w w' : World} {v : Value} {l : List Int} (h : Lst w v l) (hs : w.heap.size ≤ w'.heap.size) (k : ∀ g, v.ownBlock = some g → w'.heap[g]? = w.heap[g]?) : Lst w' v l := by
  rcases h with h | ⟨g, c, e, hg, h1, h2, h3⟩
  · exact .inl h
  · refine .inr ⟨g, c, e, by omega, h1, h2, fun j hj => ?_⟩
    have := k g (by rw [e]; rfl)
    rw [← h3 j hj]
    simp [World.cell?, this]
theorem Lst.below {w w' : World} {v : Value} {l : List Int} (h : Lst w v l) (k : Below w.heap.size w w') : Lst w' v l := h.same k.size fun g hg => by
  rcases h with ⟨e, _⟩ | ⟨g', c, e, hg', _⟩
  · rw [e] at hg; cases hg
  · rw [e] at hg
    obtain rfl : g' = g := by simpa [Value.ownBlock] using hg
    exact k.block _ hg'
set_option maxHeartbeats 16000000 in
set_option maxRecDepth 100000 in
theorem ints_calls {w : World} {v v' : Value} {l : List Int} (h : Lst w v l) (h' : Lst w v' l) (hl : l.length ≤ 1000000000) :
    Calls Try.prog 26 #[v, v'] w fun e w' => e = .returned (.bool true) ∧ ∃ m, w' = w.drewN m := by
  rcases h with ⟨rfl, rfl⟩ | ⟨g, c, rfl, hg, h1, h2, h3⟩
  · rcases h' with ⟨rfl, _⟩ | ⟨g', c', rfl, hg', h1', h2', h3'⟩
    · go_enter Try.func26, Try.ntmps26
      go_wp2
      refine wp_loop_rounds 1 ?_
      rw [rounds_succ]
      go_wp2
      go_ret
      exact ⟨rfl, 0, rfl⟩
    · clear h3'
      go_enter Try.func26, Try.ntmps26
      go_wp2
      refine wp_loop_rounds 1 ?_
      rw [rounds_succ]
      go_wp2
      go_ret
      exact ⟨rfl, 0, rfl⟩
  · rcases h' with ⟨rfl, rfl⟩ | ⟨g', c', rfl, hg', h1', h2', h3'⟩
    · clear h3
      go_enter Try.func26, Try.ntmps26
      go_wp2
      refine wp_loop_rounds 1 ?_
      rw [rounds_succ]
      go_wp2
      go_ret
      exact ⟨rfl, 0, rfl⟩
    · have HC : Aside0 (∀ j, j < l.length → w.cell? ⟨g, j, none⟩ = some (.int .i64 (l.getD j 0)) ∧ w.cell? ⟨g', j, none⟩ = some (.int .i64 (l.getD j 0))) := ⟨fun j hj => ⟨h3 j hj, h3' j hj⟩⟩
      clear h3 h3'
      generalize l.length = n at *
      go_enter Try.func26, Try.ntmps26
      go_wp2
      go_loopw [5] (fun v5 wr => ∃ i m : Nat, i ≤ n ∧ v5 = .int .i64 i ∧ wr = w.drewN m) (fun v5 _ => n - (intOf v5).toNat)
      case atStart => exact ⟨0, 0, by omega, rfl, rfl⟩
      case round =>
        obtain ⟨i, m, hi, rfl, rfl⟩ := hrel
        by_cases hlt : i < n
        · obtain ⟨d1, d2⟩ := HC.out i hlt
          generalize l.getD i 0 = z at *
          have b1 : (0 : Int) ≤ (i : Int) := by omega
          have b2 : (i : Int) < (n : Int) := by omega
          go_wp2
          go_quiet (fail)
          all_goals
            go_wp2
            go_roundw
            case rel => exact ⟨i + 1, _, by omega, by go_num, rfl⟩
            case measure => simp [intOf]; omega
        · go_wp2
          go_ret
          exact ⟨rfl, m, rfl⟩
end Go.Proofs.Ytdjcaogffppdhaa.Lst
namespace Go.Proofs.Ytdjcaogffppdhaa.AtX
open Go.RowKit Go.Proofs.YtdjcaogffppdhaaW.PrintWords Go.Proofs.YtdjcaogffppdhaaW.PrintLast Go.Proofs.YtdjcaogffppdhaaW.PrintMore
open Go.Proofs.Ytdjcaogffppdhaa.Med (IsMed Med Ranged IsSize IsFiles Filed)
open Go.Proofs.Ytdjcaogffppdhaa.Lst
section
variable {w0 w : World} {X : Nat → Prop} {b : Nat} {M : Med} {n : Nat}
theorem AtX.remove_calls (h : AtX w0 X b M n w) (f : Int) (hn : n < 4611686018427380000) :
    Calls Try.prog 19 #[.pointer (some ⟨b, 0, none⟩), .int .i64 f] w fun e w' => e = .returned (.int .i64 (M.remove f).2) ∧ AtX w0 X b (M.remove f).1 (n + 3) w' ∧ Same X w w' := by
  obtain ⟨own, hm, ho⟩ := h.med
  exact (Med.remove_calls hm f hn).mono fun e w' ⟨he, hm', hf⟩ => ⟨he, h.framed ho hm' hf⟩
theorem AtX.files_calls (h : AtX w0 X b M n w) (hfd : Filed M) (hn : n ≤ 10000000000000) :
    Calls Try.prog 27 #[.pointer (some ⟨b, 0, none⟩)] w fun e w' => ∃ (v : Value) (l : List Int), e = .returned v ∧ IsFiles M l ∧ Lst w' v l ∧ (∀ i, v.ownBlock = some i → w.heap.size ≤ i) ∧ AtX w0 (fun i => X i ∨ v.ownBlock = some i) b M n w' ∧ Same X w w' := by
  obtain ⟨own, hm, ho⟩ := h.med
  refine (Med.files_calls hm hfd hn).mono ?_
  rintro e w' ⟨v, l, he, hl, hr, hb⟩
  refine ⟨v, l, he, hl, Lst.of_row hr, fun i hi => (hr.lt i hi).1, h.more hb _ fun i hi => ?_, Same.below h.lt hb⟩
  rcases hi with hi | hi
  · exact ⟨.inl hi, Nat.lt_of_lt_of_le (h.lt i hi) hb.size⟩
  · exact ⟨.inr (hr.lt i hi).1, (hr.lt i hi).2⟩
theorem AtX.narrow (h : AtX w0 X b M n w) (Y : Nat → Prop) (hY : ∀ i, Y i → X i) : AtX w0 Y b M n w := h.more (Below.refl _ _) Y fun i hi => ⟨.inl (hY i hi), h.lt i (hY i hi)⟩
end
end Go.Proofs.Ytdjcaogffppdhaa.AtX
