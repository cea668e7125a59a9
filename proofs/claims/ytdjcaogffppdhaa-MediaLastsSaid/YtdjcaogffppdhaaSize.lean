/- The program's media: how many sectors a file has. -/
import Derived.Test.YtdjcaogffppdhaaMedW
import Derived.Maps.RangeWalk
import Derived.Laws.IdiomRangeMap
set_option linter.unusedVariables false
set_option linter.unusedSimpArgs false
namespace Go.Proofs.Ytdjcaogffppdhaa.Med
open Go.RowKit Go.ChangeMaps Go.Proofs.Ytdjcaogffppdhaa.IMap Go.Proofs.YtdjcaogffppdhaaW.PrintWords Go.Proofs.YtdjcaogffppdhaaW.PrintLast Go.Proofs.YtdjcaogffppdhaaW.PrintMore
open Go.Maps (Keyed)
attribute [local go_sem] max2_int min2_int max_two min_two
/-- r is how many sectors file f has, up to the last one. -/
structure IsSize (M : Med) (f r : Int) : Prop where
  lo : 0 ≤ r
  hi : r ≤ 65536
  up : ∀ i s, M.S f i = some s → i + 1 ≤ r
  at_ : r = 0 ∨ ∃ s, M.S f (r - 1) = some s
/-- The sectors' numbers are those that sectors may have. -/
def Ranged (M : Med) : Prop := ∀ f i s, M.S f i = some s → 0 ≤ f ∧ f < 1048576 ∧ 0 ≤ i ∧ i < 65536
theorem Ranged.new : Ranged Med.new := fun _ _ _ h => by cases h
theorem Ranged.write {M : Med} (h : Ranged M) (f i : Int) (s : ByteArray) : Ranged (M.write f i s).1 := by
  unfold Med.write
  split
  · rename_i h0
    obtain ⟨a, b, c, d, _⟩ := ready_zero h0
    have hsp : M.spend.1.S = M.S := by unfold Med.spend; split <;> rfl
    split
    · intro g j t ht
      have e : ((M.spend.1.made f).put f i s).S g j = if g = f ∧ j = i then some s else M.spend.1.S g j := rfl
      simp only [] at ht
      rw [e, hsp] at ht
      split at ht
      · rename_i hc
        obtain ⟨rfl, rfl⟩ := hc
        exact ⟨a, b, c, d⟩
      · exact h g j t ht
    · intro g j t ht
      rw [hsp] at ht
      exact h g j t ht
  · exact h
theorem Ranged.arm {M : Med} (h : Ranged M) (x : Int) : Ranged (M.arm x) := h
theorem Ranged.on {M : Med} (h : Ranged M) : Ranged M.on := h
theorem same_key {i x : Int} (h : i ≠ x) : (key i).sameKey (key x) = false := by
  unfold key
  simp [Lit.sameKey, h]
theorem law_int : Keyed Try.prog 3 := Maps.int_keyed Try.underlying3
theorem invS {v : Value} {y : D0 × List MemPlace} (h : RS v = some y) : ∃ c, v = Value.string c := by
  unfold RS at h
  obtain ⟨c, rfl, _⟩ := plainElem_string_inv Try.underlying9 h
  exact ⟨c, rfl⟩
set_option maxHeartbeats 4000000 in
set_option maxRecDepth 100000 in
theorem size_nil (f : Int) (w : World) : Calls Try.prog 15 #[.pointer none, .int .i64 f] w fun e w' => e = .returned (.int .i64 0) ∧ w = w' := by
  go_enter Try.func15, Try.ntmps15
  go_wp2
  go_ret
  exact ⟨rfl, rfl⟩
/-- What the loop has seen so far. -/
structure Seen (D : D0) (M : Med) (f r : Int) (left : Lit → Bool) : Prop where
  lo : 0 ≤ r
  hi : r ≤ 65536
  sub : ∀ kl, left kl = true → Maps.has D kl = true
  up : ∀ i, (key i).wf = true → Maps.has D (key i) = true → left (key i) = true ∨ i + 1 ≤ r
  at_ : r = 0 ∨ ∃ s, M.S f (r - 1) = some s
theorem Seen.step {D : D0} {M : Med} {f r : Int} {left : Lit → Bool} (h : Seen D M f r left) {x : Int} (hx : left (key x) = true) (hw : (key x).wf = true) (hD : Reads D (FS M.S f)) (hok : Ranged M) : 0 ≤ x ∧ x < 65536 ∧ Seen D M f (if r < x + 1 then x + 1 else r) (fun z => left z && !z.sameKey (key x)) := by
  have h1 := h.sub _ hx
  rw [(hD.2 x hw).1] at h1
  obtain ⟨s, hs⟩ : ∃ s, M.S f x = some s := by
    unfold FS at h1
    cases hS : M.S f x with
    | none => rw [hS] at h1; cases h1
    | some s => exact ⟨s, rfl⟩
  obtain ⟨_, _, a, b⟩ := hok f x s hs
  have := h.lo
  have := h.hi
  refine ⟨a, b, by split <;> omega, by split <;> omega, fun kl hk => ?_, fun i hi hhas => ?_, ?_⟩
  · simp only [Bool.and_eq_true] at hk
    exact h.sub kl hk.1
  · rcases h.up i hi hhas with h2 | h2
    · by_cases e : i = x
      · right; subst e; split <;> omega
      · left; simp only [h2, same_key e]; rfl
    · right; split <;> omega
  · split
    · right; exact ⟨s, by rw [show x + 1 - 1 = x from by omega]; exact hs⟩
    · exact h.at_
set_option maxHeartbeats 16000000 in
set_option maxRecDepth 100000 in
theorem size_calls {w : World} {own : Nat → Prop} {b : Nat} {M : Med} {n : Nat} (h : IsMed w own b M n) (hok : Ranged M) (f : Int) (hf : (Lit.int .i64 f).wf = true) :
    Calls Try.prog 15 #[.pointer (some ⟨b, 0, none⟩), .int .i64 f] w fun e w' => ∃ r, e = .returned (.int .i64 r) ∧ IsSize M f r ∧ Below w.heap.size w w' := by
  have hu := Try.underlying67
  obtain ⟨g, F, r, o1, o2, o3⟩ := h
  have hfile := r.file hf
  have c0 : w.cell? ⟨b, 0, none⟩ = some (.map (some g)) := by have := r.hb; simp [World.cell?, this]
  cases hF : F f with
  | none =>
    rw [hF] at hfile
    have hS : ∀ i, M.S f i = none := (r.no f hF).2
    have HS := Aside0.mk hS
    clear hS hF r o1 o2 o3
    have hrg := run_range_nilMap (P := Try.prog) w 71 3 9 Try.underlying71
    have hnx : ∀ ty, (Instr.next (.pointer (some ⟨w.heap.size, 0, none⟩)) false ty).run Try.prog (w.alloc (.mapIter none 0 #[] 0)) = _ := fun ty => run_next_nilMap w ty 0 0 #[]
    go_enter Try.func15, Try.ntmps15
    go_wp2
    refine wp_loop_rounds 1 ?_
    rw [rounds_succ]
    go_wp2
    go_ret
    exact ⟨0, rfl, ⟨by omega, by omega, (fun i s h => by rw [HS.out i] at h; cases h), .inl rfl⟩, (Below.refl _ w).alloc (Nat.le_refl _) _⟩
  | some h =>
    rw [hF] at hfile
    obtain ⟨D, hown, hD⟩ := (r.hf f h hF).2
    have HD := Aside0.mk hD
    have HO := Aside0.mk hok
    clear hF r o1 o2 o3 hD hok
    go_enter Try.func15, Try.ntmps15
    go_wp2_with (first
      | (at_range; refine wpList_range_own _ rfl _ 71 rfl 3 9 law_int Try.underlying71 _ h n _ rfl hown ?_; intro w0 hrg0 hg0 hs0)
      | go_in)
    go_frame
    have HG0 := Aside0.mk hg0
    have HR0 := Aside0.mk hrg0
    clear hg0 hrg0 hs0
    go_loopw [5] (fun v5 wr => ∃ (q : Int) (left : Lit → Bool) (cnt : Nat), v5 = .int .i64 q ∧ Aside0 (Seen D M f q left) ∧ Aside0 (wr.ranges Try.prog 3 RS h w.heap.size n D left cnt) ∧ Aside0 (w.grownBy wr none))
      (fun _ wr => wr.rangeLeft h w.heap.size)
    case atStart => exact ⟨0, _, _, rfl, ⟨by omega, by omega, fun kl hk => hk, fun i _ hh => .inl hh, .inl rfl⟩, ⟨HR0.out⟩, ⟨HG0.out⟩⟩
    case round =>
      obtain ⟨q, left, cnt, rfl, HS, HR, HG⟩ := hrel
      clear HR0 HG0
      have hrg := HR.out
      go_wp2_with (first
        | (at_next; refine wpList_next_ranges _ rfl _ rfl 3 law_int RS (Value.int .i64) Value.string (fun key kl hk => by obtain ⟨x, rfl, _⟩ := Maps.keyOf_int_inv Try.underlying3 hk; exact ⟨x, rfl⟩) (fun v y hv => invS hv) h w.heap.size n _ _ _ rfl hrg ?_ ?_)
        | go_in)
      · intro hc0 hl0
        clear hrg
        have HL0 := Aside0.mk hl0
        clear hl0
        go_wp2
        go_ret
        refine ⟨q, rfl, ⟨HS.out.lo, HS.out.hi, fun i s hs => ?_, HS.out.at_⟩, ⟨HG.out.os, HG.out.tape, HG.out.output, HG.out.size, fun i hi => HG.out.block i hi (by simp)⟩⟩
        obtain ⟨_, _, a, b⟩ := HO.out f i s hs
        have hw : (key i).wf = true := wf_small (by omega) (by omega)
        have hhas : Maps.has D (key i) = true := by rw [(HD.out.2 i hw).1]; unfold FS; rw [hs]; rfl
        rcases HS.out.up i hw hhas with h1 | h1
        · rw [HL0.out] at h1; cases h1
        · exact h1
      · intro x c kl y ps w1 cnt1 hkey hlx hv hat hrg1 hlt hg1 hs1 hen
        obtain ⟨x', e', rfl, hwx⟩ := Maps.keyOf_int_inv Try.underlying3 hkey
        cases e'
        obtain ⟨hx0, hx1, hseen⟩ := HS.out.step hlx hwx HD.out HO.out
        have HSN := Aside0.mk hseen
        have HRN := Aside0.mk hrg1
        have HGN : Aside0 (w.grownBy w1 none) := ⟨⟨hg1.os.trans HG.out.os, hg1.tape.trans HG.out.tape, hg1.output.trans HG.out.output, Nat.le_trans HG.out.size hg1.size, fun i hi _ => (hg1.block i (Nat.lt_of_lt_of_le hi HG.out.size) (by simp; omega)).trans (HG.out.block i hi (by simp))⟩⟩
        have HLT := Aside0.mk hlt
        have q0 := HS.out.lo
        have q1 := HS.out.hi
        clear hseen hrg1 hg1 hs1 hlt hrg hat hv hkey hlx
        go_wp2
        go_roundw
        case rel => exact ⟨_, _, cnt1, rfl, HSN, HRN, HGN⟩
        case measure => rw [HRN.out.left_eq, HR.out.left_eq]; exact HLT.out
end Go.Proofs.Ytdjcaogffppdhaa.Med
