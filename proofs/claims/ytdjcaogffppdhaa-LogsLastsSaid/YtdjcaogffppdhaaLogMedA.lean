/- Of one claim's parts: Med, MedW, MedR. -/
import Derived.Test.YtdjcaogffppdhaaIMap
import Derived.Maps.StringElems
import Derived.Test.YtdjcaogffppdhaaWWords
import Derived.Test.YtdjcaogffppdhaaWMore
import Derived.Test.YtdjcaogffppdhaaWLast
set_option linter.unusedVariables false
set_option linter.unusedSimpArgs false
namespace Go.Proofs.Ytdjcaogffppdhaa.Med
open Go.RowKit Go.ChangeMaps Go.Proofs.Ytdjcaogffppdhaa.IMap Go.Proofs.YtdjcaogffppdhaaW.PrintWords Go.Proofs.YtdjcaogffppdhaaW.PrintLast Go.Proofs.YtdjcaogffppdhaaW.PrintMore

structure Med where
  S : Int → Int → Option ByteArray
  has : Int → Bool
  left : Int
  off : Bool
  writes : Int
def Med.new : Med := ⟨fun _ _ => none, fun _ => false, -1, false, 0⟩

/-- What stands for a file: its sectors' map. -/
noncomputable def RB : Value → Option (D0 × List MemPlace)
  | .map (some h) => some (.lit (.int .i64 (h : Int)), [])
  | .map none => some (.nil, [])
  | _ => none
theorem RB_some {v : Value} {h : Nat} {ps : List MemPlace} (e : RB v = some (.lit (.int .i64 (h : Int)), ps)) : v = .map (some h) := by
  unfold RB at e
  split at e
  · rename_i k
    simp at e
    rw [show k = h from by omega]
  · simp at e
  · simp at e
theorem RB_nil {v : Value} {ps : List MemPlace} (e : RB v = some (.nil, ps)) : v = .map none := by
  unfold RB at e
  split at e
  · simp at e
  · rfl
  · simp at e
noncomputable def RS : Value → Option (D0 × List MemPlace) := plainElem Try.prog 9
theorem RS_mk (s : ByteArray) (h : s.size ≤ maxLen) : RS (.string s) = some (.lit (.string s.data.toList), []) := plainElem_string Try.underlying9 h
set_option maxRecDepth 100000 in
theorem RS_inv {v : Value} {s : ByteArray} {ps : List MemPlace} (e : RS v = some (.lit (.string s.data.toList), ps)) : v = .string s := by
  unfold RS at e
  obtain ⟨c, rfl, hc, _⟩ := plainElem_string_inv Try.underlying9 e
  simp only [Prod.mk.injEq, DataW.lit.injEq, Lit.string.injEq] at hc
  congr 1
  cases c; cases s
  have := Array.toList_inj.1 hc.1
  simp at this
  rw [this]
noncomputable def FB (F : Int → Option Nat) : Int → Option D0 := fun f => (F f).map fun h => .lit (.int .i64 (h : Int))
noncomputable def FS (S : Int → Int → Option ByteArray) (f : Int) : Int → Option D0 := fun i => (S f i).map fun s => .lit (.string s.data.toList)

structure Rep (w : World) (b g : Nat) (F : Int → Option Nat) (M : Med) (n : Nat) : Prop where
  hb : w.heap[b]? = some (.cells #[.map (some g), .int .i64 M.left, .bool M.off, .int .i64 M.writes] 67 (0, 0))
  hg : IMap w Try.prog 3 RB g n (FB F)
  hf : ∀ f h, F f = some h → h ≠ g ∧ IMap w Try.prog 3 RS h n (FS M.S f)
  no : ∀ f, F f = none → M.has f = false ∧ ∀ i, M.S f i = none
  yes : ∀ f h, F f = some h → M.has f = true
  inj : ∀ f f' h, F f = some h → F f' = some h → f = f'
  l0 : -1 ≤ M.left
  l1 : M.left ≤ 9223372036854775807
  w0 : 0 ≤ M.writes
  w1 : M.writes ≤ n
  str : ∀ f i s, M.S f i = some s → s.size = 64
def IsMed (w : World) (own : Nat → Prop) (b : Nat) (M : Med) (n : Nat) : Prop := ∃ g F, Rep w b g F M n ∧ own b ∧ own g ∧ ∀ f h, F f = some h → own h
/-- Nothing has turned but what 'own' names, and what is new. -/
structure Frame (own : Nat → Prop) (w w' : World) : Prop where
  os : w'.os = w.os
  tape : w'.tape = w.tape
  output : w'.output = w.output
  size : w.heap.size ≤ w'.heap.size
  block : ∀ i, i < w.heap.size → ¬own i → w'.heap[i]? = w.heap[i]?
theorem Frame.refl (own : Nat → Prop) (w : World) : Frame own w w := ⟨rfl, rfl, rfl, Nat.le_refl _, fun _ _ _ => rfl⟩
theorem Frame.of_below {own : Nat → Prop} {w w' : World} (h : Below w.heap.size w w') : Frame own w w' := ⟨h.os, h.tape, h.output, h.size, fun i hi _ => h.block i hi⟩
theorem Frame.trans {own own' : Nat → Prop} {w w1 w2 : World} (h : Frame own w w1) (k : Frame own' w1 w2) (ho : ∀ i, own' i → own i ∨ w.heap.size ≤ i) : Frame own w w2 :=
  ⟨k.os.trans h.os, k.tape.trans h.tape, k.output.trans h.output, Nat.le_trans h.size k.size, fun i hi hn => (k.block i (Nat.lt_of_lt_of_le hi h.size) (fun h' => by
    rcases ho i h' with h' | h'
    · exact hn h'
    · omega)).trans (h.block i hi hn)⟩
theorem Frame.below {own : Nat → Prop} {w w' : World} {B : Nat} (h : Frame own w w') (hB : B ≤ w.heap.size) (ho : ∀ i, own i → B ≤ i) : Below B w w' :=
  ⟨h.os, h.tape, h.output, h.size, fun i hi => h.block i (by omega) (fun h' => by have := ho i h'; omega)⟩
theorem Rep.same {w w' : World} {b g : Nat} {F : Int → Option Nat} {M : Med} {n : Nat} (h : Rep w b g F M n) (e : ∀ i, (i = b ∨ i = g ∨ ∃ f, F f = some i) → w'.heap[i]? = w.heap[i]?) : Rep w' b g F M n where
  hb := (e b (.inl rfl)).trans h.hb
  hg := h.hg.same (e g (.inr (.inl rfl)))
  hf := fun f k hk => ⟨(h.hf f k hk).1, (h.hf f k hk).2.same (e k (.inr (.inr ⟨f, hk⟩)))⟩
  no := h.no
  yes := h.yes
  inj := h.inj
  l0 := h.l0
  l1 := h.l1
  w0 := h.w0
  w1 := h.w1
  str := h.str
theorem Rep.lt {w : World} {b g : Nat} {F : Int → Option Nat} {M : Med} {n : Nat} (h : Rep w b g F M n) : ∀ i, (i = b ∨ i = g ∨ ∃ f, F f = some i) → i < w.heap.size := by
  rintro i (rfl | rfl | ⟨f, hf⟩)
  · exact (Array.getElem?_eq_some_iff.1 h.hb).1
  · exact h.hg.lt
  · exact (h.hf f i hf).2.lt
theorem IsMed.same {w w' : World} {own : Nat → Prop} {b : Nat} {M : Med} {n : Nat} (h : IsMed w own b M n) (e : ∀ i, i < w.heap.size → own i → w'.heap[i]? = w.heap[i]?) : IsMed w' own b M n := by
  obtain ⟨g, F, r, h1, h2, h3⟩ := h
  refine ⟨g, F, r.same fun i hi => e i (r.lt i hi) ?_, h1, h2, h3⟩
  rcases hi with rfl | rfl | ⟨f, hf⟩
  · exact h1
  · exact h2
  · exact h3 f i hf
theorem IsMed.below {w w' : World} {own : Nat → Prop} {b : Nat} {M : Med} {n : Nat} (h : IsMed w own b M n) (k : Below w.heap.size w w') : IsMed w' own b M n := h.same fun i hi _ => k.block i hi
theorem IsMed.frame {w w' : World} {own o : Nat → Prop} {b : Nat} {M : Med} {n : Nat} (h : IsMed w own b M n) (k : Frame o w w') (ho : ∀ i, own i → ¬o i) : IsMed w' own b M n := h.same fun i hi hh => k.block i hi (ho i hh)
theorem IsMed.weaken {w : World} {own own' : Nat → Prop} {b : Nat} {M : Med} {n : Nat} (h : IsMed w own b M n) (k : ∀ i, i < w.heap.size → own i → own' i) : IsMed w own' b M n := by
  obtain ⟨g, F, r, h1, h2, h3⟩ := h
  exact ⟨g, F, r, k b (r.lt b (.inl rfl)) h1, k g (r.lt g (.inr (.inl rfl))) h2, fun f i hf => k i (r.lt i (.inr (.inr ⟨f, hf⟩))) (h3 f i hf)⟩

theorem heap_set {w : World} {b : Nat} {cs : Array Value} {T : TypeId} {fr : Nat × Nat} (h : w.heap[b]? = some (.cells cs T fr)) (i : Nat) (v : Value) : (w.setCell ⟨b, i, none⟩ v).heap[b]? = some (.cells (cs.setIfInBounds i v) T fr) := by
  simp [World.setCell, Array.getElem?_modify, h]
theorem heap_set_ne {w : World} {b j : Nat} (hne : j ≠ b) (i : Nat) (v : Value) : (w.setCell ⟨b, i, none⟩ v).heap[j]? = w.heap[j]? := by
  simp [World.setCell, Array.getElem?_modify, hne.symm]
theorem heap_drewN (w : World) (m : Nat) : (w.drewN m).heap = w.heap := rfl

set_option maxHeartbeats 4000000 in
set_option maxRecDepth 100000 in
theorem New_calls (w : World) : Calls Try.prog 10 #[] w fun e w' => ∃ b, e = .returned (.pointer (some ⟨b, 0, none⟩)) ∧ IsMed w' (fun i => w.heap.size ≤ i) b Med.new 0 ∧ Below w.heap.size w w' := by
  have hu := Try.underlying67
  have hm := run_makeMap (P := Try.prog) 65 w
  go_enter Try.func10, Try.ntmps10
  go_wp2
  go_ret
  refine ⟨_, rfl, ⟨w.heap.size, fun _ => none, ?_, by show w.heap.size ≤ w.heap.size + 1; omega, Nat.le_refl _, fun f h e => by cases e⟩, ((Below.refl _ w).alloc (Nat.le_refl _) _).alloc (by simp) _⟩
  refine ⟨?_, ?_, fun f h e => (by cases e), fun f _ => ⟨rfl, fun _ => rfl⟩, fun f h e => (by cases e), fun f f' h e => (by cases e), by decide, by decide, by decide, by decide, fun f i s e => (by cases e)⟩
  · rw [show w.heap.size + 1 = (w.alloc (.map #[] 0)).heap.size from by simp]
    exact heap_alloc_new _ _
  · have h0 := IMap.made w Try.prog 3 RB
    refine (h0.same ?_)
    exact Below.heap_alloc _ _ _ (by simp)

theorem Rep.apart {w : World} {b g : Nat} {F : Int → Option Nat} {M : Med} {n : Nat} (h : Rep w b g F M n) : g ≠ b ∧ ∀ f k, F f = some k → k ≠ b := by
  refine ⟨fun e => ?_, fun f k hk e => ?_⟩
  · obtain ⟨es, c, hm⟩ := h.hg.is
    rw [e, h.hb] at hm; cases hm
  · obtain ⟨es, c, hm⟩ := (h.hf f k hk).2.is
    rw [e, h.hb] at hm; cases hm
theorem Rep.re {w w' : World} {b g : Nat} {F : Int → Option Nat} {M M' : Med} {n n' : Nat} (r : Rep w b g F M n)
    (hb' : w'.heap[b]? = some (.cells #[.map (some g), .int .i64 M'.left, .bool M'.off, .int .i64 M'.writes] 67 (0, 0))) (he : ∀ i, i ≠ b → w'.heap[i]? = w.heap[i]?)
    (hS : M'.S = M.S) (hh : M'.has = M.has) (hn : n ≤ n') (l0 : -1 ≤ M'.left) (l1 : M'.left ≤ 9223372036854775807) (w0 : 0 ≤ M'.writes) (w1 : M'.writes ≤ n') : Rep w' b g F M' n' where
  hb := hb'
  hg := (r.hg.same (he g r.apart.1)).mono hn
  hf := fun f k hk => ⟨(r.hf f k hk).1, by rw [hS]; exact ((r.hf f k hk).2.same (he k (r.apart.2 f k hk))).mono hn⟩
  no := fun f hf => by rw [hS, hh]; exact r.no f hf
  yes := fun f k hk => by rw [hh]; exact r.yes f k hk
  inj := r.inj
  l0 := l0
  l1 := l1
  w0 := w0
  w1 := w1
  str := fun f i s hs => by rw [hS] at hs; exact r.str f i s hs
def Med.put (M : Med) (f i : Int) (s : ByteArray) : Med := { M with S := fun f' i' => if f' = f ∧ i' = i then some s else M.S f' i' }
def Med.made (M : Med) (f : Int) : Med := { M with has := fun f' => if f' = f then true else M.has f' }
theorem wf_key {i : Int} (h : (Lit.int .i64 i).wf = true) : (key i).wf = true := h
/-- A sector is written into a file that is there. -/
theorem Rep.store {w : World} {b g h : Nat} {F : Int → Option Nat} {M : Med} {n : Nat} (r : Rep w b g F M n) {f i : Int} (hf : F f = some h) (hi : (Lit.int .i64 i).wf = true) {s : ByteArray} (hs : s.size = 64) (hn : n < 4611686018427387904) :
    ∃ w', (Instr.mapUpdate 71 (.map (some h)) (.int .i64 i) (.string s)).run Try.prog w = .ok () w' ∧ Rep w' b g F (M.put f i s) (n + 1) ∧ w.grownBy w' (some h) := by
  have hml : maxLen = 9223372036854775807 := rfl
  obtain ⟨w', e, i', gr⟩ := (r.hf f h hf).2.update Try.underlying3 Try.underlying71 (by omega) i (wf_key hi) (RS_mk s (by omega))
  refine ⟨w', e, ?_, gr⟩
  have lt := r.lt
  have he : ∀ j, j ≠ h → (j = b ∨ j = g ∨ ∃ f, F f = some j) → w'.heap[j]? = w.heap[j]? := fun j hj hjj => gr.block j (lt j hjj) (fun e => hj (by simpa using e))
  refine ⟨(he b (fun e => r.apart.2 f h hf e.symm) (.inl rfl)).trans r.hb, (r.hg.same (he g (fun e => (r.hf f h hf).1 e.symm) (.inr (.inl rfl)))).mono (by omega), ?_, ?_, r.yes, r.inj, r.l0, r.l1, r.w0, by have := r.w1; show M.writes ≤ _; omega, ?_⟩
  · intro f' k hk
    refine ⟨(r.hf f' k hk).1, ?_⟩
    by_cases hff : f' = f
    · subst hff
      obtain rfl : k = h := by rw [hf] at hk; exact (Option.some.inj hk).symm
      obtain ⟨D, o, rd⟩ := i'
      refine ⟨D, o, rd.ext fun j => ?_⟩
      unfold FS Med.put
      by_cases hj : j = i
      · simp [hj]
      · simp [hj]
    · have hkh : k ≠ h := fun e => hff (r.inj f' f k hk (by rw [e]; exact hf))
      have := ((r.hf f' k hk).2.same (he k hkh (.inr (.inr ⟨f', hk⟩)))).mono (show n ≤ n + 1 by omega)
      obtain ⟨D, o, rd⟩ := this
      refine ⟨D, o, rd.ext fun j => ?_⟩
      unfold FS Med.put
      simp [hff]
  · intro f' hk
    obtain ⟨a, c⟩ := r.no f' hk
    have hff : f' ≠ f := fun e => by rw [e, hf] at hk; cases hk
    exact ⟨a, fun j => by simp [Med.put, hff, c j]⟩
  · intro f' j s' hs'
    unfold Med.put at hs'
    by_cases hc : f' = f ∧ j = i
    · simp only [hc] at hs'; simp at hs'; rw [← hs']; exact hs
    · simp only [hc, if_false] at hs'; exact r.str f' j s' hs'
/-- A new file is laid. -/
theorem Rep.newfile {w : World} {b g : Nat} {F : Int → Option Nat} {M : Med} {n : Nat} (r : Rep w b g F M n) {f : Int} (hf : F f = none) (hw : (Lit.int .i64 f).wf = true) (hn : n < 4611686018427387904) :
    ∃ w', (Instr.mapUpdate 65 (.map (some g)) (.int .i64 f) (.map (some w.heap.size))).run Try.prog (w.alloc (.map #[] 0)) = .ok () w' ∧
      Rep w' b g (fun j => if j = f then some w.heap.size else F j) (M.made f) (n + 1) ∧ (w.alloc (.map #[] 0)).grownBy w' (some g) := by
  have hml : maxLen = 9223372036854775807 := rfl
  have lt := r.lt
  have ha : ∀ j, (j = b ∨ j = g ∨ ∃ f, F f = some j) → (w.alloc (.map #[] 0)).heap[j]? = w.heap[j]? := fun j hj => Below.heap_alloc w (.map #[] 0) j (lt j hj)
  obtain ⟨w', e, i', gr⟩ := (r.hg.same (ha g (.inr (.inl rfl)))).update Try.underlying3 Try.underlying65 (by omega) f (wf_key hw) (val := .map (some w.heap.size)) (d := .lit (.int .i64 ((w.heap.size : Nat) : Int))) (ps := []) rfl
  refine ⟨w', e, ?_, gr⟩
  have hsz : (w.alloc (.map #[] 0)).heap.size = w.heap.size + 1 := by simp
  have he : ∀ j, j ≠ g → (j = b ∨ ∃ f, F f = some j) → w'.heap[j]? = w.heap[j]? := fun j hj hjj => by
    have hjj' : j = b ∨ j = g ∨ ∃ f, F f = some j := by rcases hjj with h | h; exact .inl h; exact .inr (.inr h)
    exact (gr.block j (by rw [hsz]; have := lt j hjj'; omega) (fun e => hj (by simpa using e))).trans (ha j hjj')
  have hgl := lt g (.inr (.inl rfl))
  have hnew : w'.heap[w.heap.size]? = (w.alloc (.map #[] 0)).heap[w.heap.size]? := gr.block _ (by omega) (fun e => by have h' : w.heap.size = g := (by simpa using e); omega)
  refine ⟨(he b (fun e => r.apart.1 e.symm) (.inl rfl)).trans r.hb, ?_, ?_, ?_, ?_, ?_, r.l0, r.l1, r.w0, by have := r.w1; show M.writes ≤ _; omega, r.str⟩
  · obtain ⟨D, o, rd⟩ := i'
    refine ⟨D, o, rd.ext fun j => ?_⟩
    unfold FB
    by_cases hj : j = f
    · simp [hj]
    · simp [hj]
  · intro f' k hk
    by_cases hff : f' = f
    · simp only [hff, if_true] at hk
      obtain rfl := Option.some.inj hk
      refine ⟨by omega, ?_⟩
      have h0 := ((IMap.made w Try.prog 3 RS).same hnew).mono (show 0 ≤ n + 1 by omega)
      obtain ⟨D, o, rd⟩ := h0
      refine ⟨D, o, rd.ext fun j => ?_⟩
      unfold FS Med.made
      rw [hff, (r.no f hf).2 j]; rfl
    · simp only [hff, if_false] at hk
      exact ⟨(r.hf f' k hk).1, ((r.hf f' k hk).2.same (he k (r.hf f' k hk).1 (.inr ⟨f', hk⟩))).mono (by omega)⟩
  · intro f' hk
    by_cases hff : f' = f
    · simp [hff] at hk
    · simp only [hff, if_false] at hk
      obtain ⟨a, c⟩ := r.no f' hk
      exact ⟨by simp [Med.made, hff, a], c⟩
  · intro f' k hk
    by_cases hff : f' = f
    · simp [Med.made, hff]
    · simp only [hff, if_false] at hk
      simp [Med.made, hff, r.yes f' k hk]
  · intro f1 f2 k h1 h2
    by_cases e1 : f1 = f
    · by_cases e2 : f2 = f
      · rw [e1, e2]
      · simp only [e1, if_true] at h1
        simp only [e2, if_false] at h2
        have := lt k (.inr (.inr ⟨f2, h2⟩))
        have := Option.some.inj h1
        omega
    · simp only [e1, if_false] at h1
      by_cases e2 : f2 = f
      · simp only [e2, if_true] at h2
        have := lt k (.inr (.inr ⟨f1, h1⟩))
        have := Option.some.inj h2
        omega
      · simp only [e2, if_false] at h2
        exact r.inj f1 f2 k h1 h2

def Med.ready (M : Med) (f i n : Int) : Int := if M.off = true then 40 else if f < 0 ∨ f ≥ 1048576 ∨ i < 0 ∨ i ≥ 65536 ∨ n ≠ 64 then 42 else 0
set_option maxHeartbeats 4000000 in
set_option maxRecDepth 100000 in
theorem ready_nil (f i n : Int) (w : World) : Calls Try.prog 39 #[.pointer none, .int .i64 f, .int .i64 i, .int .i64 n] w fun e w' => e = .returned (.int .i64 2) ∧ w' = w := by
  go_enter Try.func39, Try.ntmps39
  go_wp2
  go_ret
  exact ⟨rfl, rfl⟩
set_option maxHeartbeats 8000000 in
set_option maxRecDepth 100000 in
theorem ready_calls {w : World} {own : Nat → Prop} {b : Nat} {M : Med} {n : Nat} (h : IsMed w own b M n) (f i k : Int) :
    Calls Try.prog 39 #[.pointer (some ⟨b, 0, none⟩), .int .i64 f, .int .i64 i, .int .i64 k] w fun e w' => e = .returned (.int .i64 (M.ready f i k)) ∧ w' = w := by
  obtain ⟨g, F, r, _⟩ := h
  have hu := Try.underlying67
  have c2 : w.cell? ⟨b, 2, none⟩ = some (.bool M.off) := by have := r.hb; simp [World.cell?, this]
  obtain ⟨R, hR⟩ : ∃ R, R = M.ready f i k := ⟨_, rfl⟩
  rw [← hR]
  unfold Med.ready at hR
  have HR := Aside0.mk hR
  clear hR r
  go_enter Try.func39, Try.ntmps39
  cases ho : M.off
  · rw [ho] at c2 HR
    by_cases h1 : f < 0
    · go_wp2; go_ret; exact ⟨by rw [HR.out]; simp [h1], rfl⟩
    by_cases h2 : f ≥ 1048576
    · go_wp2; go_ret; exact ⟨by rw [HR.out]; simp [h1, h2], rfl⟩
    by_cases h3 : i < 0
    · go_wp2; go_ret; exact ⟨by rw [HR.out]; simp [h1, h2, h3], rfl⟩
    by_cases h4 : i ≥ 65536
    · go_wp2; go_ret; exact ⟨by rw [HR.out]; simp [h1, h2, h3, h4], rfl⟩
    by_cases h5 : k = 64
    · subst h5
      go_wp2; go_ret; exact ⟨by rw [HR.out]; simp [h1, h2, h3, h4], rfl⟩
    · go_wp2; go_ret; exact ⟨by rw [HR.out]; simp [h1, h2, h3, h4, h5], rfl⟩
  · rw [ho] at c2 HR
    go_wp2
    go_ret
    exact ⟨by rw [HR.out]; rfl, rfl⟩

def Med.spend (M : Med) : Med × Int := if M.left = 0 then ({ M with off := true }, 40) else ({ M with left := if M.left > 0 then M.left - 1 else -1, writes := M.writes + 1 }, 0)
set_option maxHeartbeats 8000000 in
set_option maxRecDepth 100000 in
theorem spend_calls {w : World} {own : Nat → Prop} {b : Nat} {M : Med} {n : Nat} (h : IsMed w own b M n) (hn : n < 4611686018427387904) :
    Calls Try.prog 40 #[.pointer (some ⟨b, 0, none⟩)] w fun e w' => e = .returned (.int .i64 M.spend.2) ∧ IsMed w' own b M.spend.1 (n + 1) ∧ Frame own w w' := by
  obtain ⟨g, F, r, o1, o2, o3⟩ := h
  have hu := Try.underlying67
  have c1 : w.cell? ⟨b, 1, none⟩ = some (.int .i64 M.left) := by have := r.hb; simp [World.cell?, this]
  have c2 : w.cell? ⟨b, 2, none⟩ = some (.bool M.off) := by have := r.hb; simp [World.cell?, this]
  have c3 : w.cell? ⟨b, 3, none⟩ = some (.int .i64 M.writes) := by have := r.hb; simp [World.cell?, this]
  have f1 : w.frozen? ⟨b, 1, none⟩ = false := by have := r.hb; simp [World.frozen?, this]
  have f2 : w.frozen? ⟨b, 2, none⟩ = false := by have := r.hb; simp [World.frozen?, this]
  have f3 : w.frozen? ⟨b, 3, none⟩ = false := by have := r.hb; simp [World.frozen?, this]
  have HR := Aside0.mk r
  have HO : Aside0 (own b ∧ own g ∧ ∀ f h, F f = some h → own h) := ⟨o1, o2, o3⟩
  have l0 := r.l0
  have l1 := r.l1
  have w0 := r.w0
  have w1 := r.w1
  clear r o1 o2 o3
  have fr1 : ∀ (i : Nat) (v : Value), Frame own w (w.setCell ⟨b, i, none⟩ v) := fun i v => ⟨rfl, rfl, rfl, by simp, fun j _ hj => heap_set_ne (fun e => hj (by rw [e]; exact HO.out.1)) i v⟩
  have fr2 : ∀ (i i' : Nat) (v v' : Value), Frame own w ((w.setCell ⟨b, i, none⟩ v).setCell ⟨b, i', none⟩ v') := fun i i' v v' => ⟨rfl, rfl, rfl, by simp, fun j _ hj => by
    rw [heap_set_ne (fun e => hj (by rw [e]; exact HO.out.1)), heap_set_ne (fun e => hj (by rw [e]; exact HO.out.1))]⟩
  obtain ⟨M', hM'⟩ : ∃ X, X = M.spend := ⟨_, rfl⟩
  rw [← hM']
  have HM := Aside0.mk hM'
  clear hM'
  go_enter Try.func40, Try.ntmps40
  by_cases h0 : M.left = 0
  · rw [h0] at c1
    go_wp2
    go_ret
    have e : M' = ({ M with off := true }, 40) := by rw [HM.out]; unfold Med.spend; rw [if_pos h0]
    subst e
    refine ⟨rfl, ⟨g, F, HR.out.re (heap_set HR.out.hb 2 _) (fun i hi => heap_set_ne hi 2 _) rfl rfl (by omega) l0 l1 w0 (by show M.writes ≤ _; omega), HO.out⟩, fr1 2 _⟩
  by_cases h1 : M.left > 0
  · have e : M' = ({ M with left := M.left - 1, writes := M.writes + 1 }, 0) := by rw [HM.out]; unfold Med.spend; rw [if_neg h0, if_pos h1]
    have e1 : wrap64 (M.left - 1) = M.left - 1 := by unfold wrap64; omega
    have e2 : wrap64 (M.writes + 1) = M.writes + 1 := by unfold wrap64; omega
    go_wp2
    go_ret
    subst e
    refine ⟨rfl, ⟨g, F, HR.out.re (heap_set (heap_set HR.out.hb 1 _) 3 _) (fun i hi => (heap_set_ne hi 3 _).trans (heap_set_ne hi 1 _)) rfl rfl (by omega) (by show -1 ≤ M.left - 1; omega) (by show M.left - 1 ≤ _; omega) (by show 0 ≤ M.writes + 1; omega) (by show M.writes + 1 ≤ _; omega), HO.out⟩, fr2 1 3 _ _⟩
  · have e : M' = ({ M with left := -1, writes := M.writes + 1 }, 0) := by rw [HM.out]; unfold Med.spend; rw [if_neg h0, if_neg h1]
    have hl : M.left = -1 := by omega
    rw [hl] at c1
    have e2 : wrap64 (M.writes + 1) = M.writes + 1 := by unfold wrap64; omega
    go_wp2
    go_ret
    try subst e
    refine ⟨rfl, ⟨g, F, HR.out.re (heap_set (heap_set HR.out.hb 1 _) 3 _) (fun i hi => (heap_set_ne hi 3 _).trans (heap_set_ne hi 1 _)) rfl rfl (by omega) (by show (-1 : Int) ≤ -1; omega) (by show (-1 : Int) ≤ _; omega) (by show 0 ≤ M.writes + 1; omega) (by show M.writes + 1 ≤ _; omega), HO.out⟩, fr2 1 3 _ _⟩
theorem Rep.there {w : World} {b g h : Nat} {F : Int → Option Nat} {M : Med} {n : Nat} (r : Rep w b g F M n) {f : Int} (hf : F f = some h) : Rep w b g F (M.made f) n where
  hb := r.hb
  hg := r.hg
  hf := r.hf
  no := fun f' hk => ⟨by
    have hff : f' ≠ f := fun e => by rw [e, hf] at hk; cases hk
    simp [Med.made, hff, (r.no f' hk).1], (r.no f' hk).2⟩
  yes := fun f' k hk => by
    by_cases hff : f' = f
    · simp [Med.made, hff]
    · simp [Med.made, hff, r.yes f' k hk]
  inj := r.inj
  l0 := r.l0
  l1 := r.l1
  w0 := r.w0
  w1 := r.w1
  str := r.str
theorem Rep.mono {w : World} {b g : Nat} {F : Int → Option Nat} {M : Med} {n n' : Nat} (r : Rep w b g F M n) (h : n ≤ n') : Rep w b g F M n' where
  hb := r.hb
  hg := r.hg.mono h
  hf := fun f k hk => ⟨(r.hf f k hk).1, (r.hf f k hk).2.mono h⟩
  no := r.no
  yes := r.yes
  inj := r.inj
  l0 := r.l0
  l1 := r.l1
  w0 := r.w0
  w1 := by have := r.w1; omega
  str := r.str
theorem IsMed.mono {w : World} {own : Nat → Prop} {b : Nat} {M : Med} {n n' : Nat} (h : IsMed w own b M n) (hn : n ≤ n') : IsMed w own b M n' := by
  obtain ⟨g, F, r, o⟩ := h
  exact ⟨g, F, r.mono hn, o⟩
def Med.write (M : Med) (f i : Int) (s : ByteArray) : Med × Int := if M.ready f i s.size = 0 then (if M.spend.2 = 0 then ((M.spend.1.made f).put f i s, 0) else M.spend) else (M, M.ready f i s.size)
theorem zero_file (w : World) : (zeroValue 71).run Try.prog w = .ok (.map none) w := by kernel_rfl
theorem zero_string (w : World) : (zeroValue 9).run Try.prog w = .ok (.string ⟨#[]⟩) w := by kernel_rfl
theorem ready_zero {M : Med} {f i n : Int} (h : M.ready f i n = 0) : 0 ≤ f ∧ f < 1048576 ∧ 0 ≤ i ∧ i < 65536 ∧ n = 64 ∧ M.off = false := by
  unfold Med.ready at h
  split at h
  · cases h
  · split at h
    · cases h
    · rename_i h1 h2
      have : M.off = false := by simpa using h1
      exact ⟨by omega, by omega, by omega, by omega, by omega, this⟩
theorem wf_small {i : Int} (h0 : -9223372036854775808 ≤ i) (h1 : i ≤ 9223372036854775807) : (Lit.int .i64 i).wf = true := by
  simp [Lit.wf, IntKind.min, IntKind.max, IntKind.signed, IntKind.bits]; omega
/-- The file's map, or none, as the look-up tells it. -/
theorem Rep.file {w : World} {b g : Nat} {F : Int → Option Nat} {M : Med} {n : Nat} (r : Rep w b g F M n) {f : Int} (hf : (Lit.int .i64 f).wf = true) :
    (Instr.lookup 65 (.map (some g)) (.int .i64 f) false).run Try.prog w = .ok (.map (F f)) w := by
  obtain ⟨v, ps, e, hv⟩ := r.hg.lookup Try.underlying3 Try.underlying65 (zero_file w) (zd := .nil) (zp := []) rfl f (wf_key hf)
  rw [e]
  cases hF : F f with
  | none =>
    have : FB F f = none := by unfold FB; rw [hF]; rfl
    rw [this] at hv
    rw [RB_nil hv]
  | some h =>
    have : FB F f = some (.lit (.int .i64 (h : Int))) := by unfold FB; rw [hF]; rfl
    rw [this] at hv
    rw [RB_some hv]
theorem grown_alloc {w : World} {o : Obj} {w' : World} {g : Nat} (gr : (w.alloc o).grownBy w' (some g)) : w.grownBy w' (some g) := by
  have hs : (w.alloc o).heap.size = w.heap.size + 1 := by simp
  refine ⟨gr.os, gr.tape, gr.output, by have := gr.size; omega, fun k hk hne => (gr.block k (by omega) hne).trans (Below.heap_alloc w o k hk)⟩
theorem Frame.of_grown {own : Nat → Prop} {w w' : World} {g : Nat} (h : w.grownBy w' (some g)) (ho : own g) : Frame own w w' :=
  ⟨h.os, h.tape, h.output, h.size, fun i hi hn => h.block i hi (fun e => hn (by have : i = g := by simpa using e
                                                                                rw [this]; exact ho))⟩
end Go.Proofs.Ytdjcaogffppdhaa.Med
namespace Go.Proofs.Ytdjcaogffppdhaa.Med
open Go.RowKit Go.ChangeMaps Go.Proofs.Ytdjcaogffppdhaa.IMap Go.Proofs.YtdjcaogffppdhaaW.PrintWords Go.Proofs.YtdjcaogffppdhaaW.PrintLast Go.Proofs.YtdjcaogffppdhaaW.PrintMore
theorem eql_none (w : World) : (binOp BinOp.eql 71 (.map none) (.map none)).run Try.prog w = .ok (.bool true) w := by
  first | kernel_rfl | simp [binOp, run_underlying Try.underlying71]
theorem eql_some (h : Nat) (w : World) : (binOp BinOp.eql 71 (.map (some h)) (.map none)).run Try.prog w = .ok (.bool false) w := by
  first | kernel_rfl | simp [binOp, run_underlying Try.underlying71]
set_option maxHeartbeats 16000000 in
set_option maxRecDepth 100000 in
theorem write_calls {w : World} {own : Nat → Prop} {b : Nat} {M : Med} {n : Nat} (h : IsMed w own b M n) (f i : Int) (s : ByteArray) (hs : s.size ≤ 9223372036854775807) (hn : n < 4611686018427380000) :
    Calls Try.prog 12 #[.pointer (some ⟨b, 0, none⟩), .int .i64 f, .int .i64 i, .string s] w fun e w' => ∃ own', e = .returned (.int .i64 (M.write f i s).2) ∧ IsMed w' own' b (M.write f i s).1 (n + 3) ∧ (∀ j, own' j → own j ∨ w.heap.size ≤ j) ∧ Frame own w w' := by
  have hu := Try.underlying67
  obtain ⟨M', hM'⟩ : ∃ X, X = M.write f i s := ⟨_, rfl⟩
  rw [← hM']
  unfold Med.write at hM'
  obtain ⟨e1, he1⟩ : ∃ X, X = M.ready f i s.size := ⟨_, rfl⟩
  have hc1 := ready_calls h f i s.size
  rw [← he1] at hM' hc1
  have HM := Aside0.mk hM'
  have HE := Aside0.mk he1
  have H := Aside0.mk h
  clear hM' he1 h
  go_enter Try.func12, Try.ntmps12
  rcases Decidable.em (¬(e1 = 0)) with h0 | h0
  · go_wp2_with (go_at_call 39; refine hc1.mono ?_; rintro e w' ⟨rfl, rfl⟩)
    go_ret
    have e : M' = (M, e1) := by rw [HM.out, if_neg h0]
    subst e
    exact ⟨own, rfl, H.out.mono (by omega), fun j hj => .inl hj, Frame.refl _ _⟩
  have h0 := Decidable.not_not.1 h0
  subst h0
  have hz := ready_zero HE.out.symm
  have HS64 : Aside0 (s.size = 64) := ⟨by omega⟩
  have wff := wf_small (i := f) (by omega) (by omega)
  have wfi := wf_small (i := i) (by omega) (by omega)
  clear hz
  have HM2 : Aside0 (M' = if M.spend.2 = 0 then ((M.spend.1.made f).put f i s, 0) else M.spend) := ⟨by rw [HM.out, if_pos rfl]⟩
  clear HM
  have hc2 := spend_calls H.out (by omega)
  obtain ⟨M1, hM1⟩ : ∃ X, X = M.spend.1 := ⟨_, rfl⟩
  obtain ⟨e2, he2⟩ : ∃ X, X = M.spend.2 := ⟨_, rfl⟩
  rw [← hM1, ← he2] at hc2
  have HM3 : Aside0 (M' = if e2 = 0 then ((M1.made f).put f i s, 0) else (M1, e2)) := ⟨by rw [HM2.out, hM1, he2]⟩
  clear HM2 hM1 he2
  rcases Decidable.em (¬(e2 = 0)) with h2 | h2
  · go_wp2_with (first | (go_at_call 39; refine hc1.mono ?_; rintro e w' ⟨rfl, rfl⟩) | (go_at_call 40; refine hc2.mono ?_; rintro e w1 ⟨rfl, hm1, hf1⟩; have HM1 := Aside0.mk hm1; have HF1 := Aside0.mk hf1; clear hm1 hf1))
    go_ret
    have e : M' = (M1, e2) := by rw [HM3.out, if_neg h2]
    subst e
    exact ⟨own, rfl, HM1.out.mono (by omega), fun j hj => .inl hj, HF1.out⟩
  have h2 := Decidable.not_not.1 h2
  subst h2
  have e : M' = ((M1.made f).put f i s, 0) := by rw [HM3.out, if_pos rfl]
  clear HM3
  go_upto_region 7 with (first | (go_at_call 39; refine hc1.mono ?_; rintro e w' ⟨rfl, rfl⟩) | (go_at_call 40; refine hc2.mono ?_; rintro e w1 ⟨rfl, hm1, hf1⟩; have HM1 := Aside0.mk hm1; have HF1 := Aside0.mk hf1; clear hm1 hf1))
  clear hc1 hc2 HE H
  obtain ⟨g, F, r, o1, o2, o3⟩ := HM1.out
  have hfile := r.file wff
  have c0 : w1.cell? ⟨b, 0, none⟩ = some (.map (some g)) := by have := r.hb; simp [World.cell?, this]
  have hsz := HF1.out.size
  cases hF : F f with
  | none =>
    obtain ⟨w2, u2, r2, g2⟩ := r.newfile hF wff (by omega)
    have hF2 : (fun j => if j = f then some w1.heap.size else F j) f = some w1.heap.size := by simp
    obtain ⟨w3, u3, r3, g3⟩ := r2.store hF2 wfi HS64.out (by omega)
    have hfile2 := r2.file wff
    simp only [if_true] at hfile2
    rw [hF] at hfile
    have c0' : w2.cell? ⟨b, 0, none⟩ = some (.map (some g)) := by have := r2.hb; simp [World.cell?, this]
    have hm := run_makeMap (P := Try.prog) 71 w1
    have R3 : Aside0 (IsMed w3 (fun j => own j ∨ w'.heap.size ≤ j) b ((M1.made f).put f i s) (n + 3)) := ⟨g, _, r3.mono (by omega), .inl o1, .inl o2, fun f' k hk => by
      by_cases hff : f' = f
      · simp only [hff, if_true] at hk
        have := Option.some.inj hk
        exact .inr (by omega)
      · simp only [hff, if_false] at hk
        exact .inl (o3 f' k hk)⟩
    have FR : Aside0 (Frame own w' w3) := ⟨(HF1.out.trans (Frame.of_grown (grown_alloc g2) o2) (fun j hj => .inl hj)).trans (Frame.of_grown (own := fun j => j = w1.heap.size) g3 rfl) (fun j hj => .inr (by omega))⟩
    clear r r2 r3 g2 g3 o1 o2 o3 hF hF2
    have hq := eql_none w1
    go_wp2
    go_ret
    subst e
    exact ⟨_, rfl, R3.out, fun j hj => hj, FR.out⟩
  | some h =>
    obtain ⟨w3, u3, r3, g3⟩ := (r.there hF).store hF wfi HS64.out (by omega)
    rw [hF] at hfile
    have R3 : Aside0 (IsMed w3 own b ((M1.made f).put f i s) (n + 3)) := ⟨g, _, r3.mono (by omega), o1, o2, o3⟩
    have FR : Aside0 (Frame own w' w3) := ⟨HF1.out.trans (Frame.of_grown g3 (o3 f h hF)) (fun j hj => .inl hj)⟩
    clear r r3 g3 o1 o2 o3 hF
    have hq := eql_some h w1
    go_wp2
    go_ret
    subst e
    exact ⟨_, rfl, R3.out, fun j hj => .inl hj, FR.out⟩
def Med.read (M : Med) (f i : Int) : ByteArray × Int := if M.ready f i 64 = 0 then (match M.S f i with | some s => (s, 0) | none => (⟨#[]⟩, 41)) else (⟨#[]⟩, M.ready f i 64)
set_option maxHeartbeats 16000000 in
set_option maxRecDepth 100000 in
theorem read_calls {w : World} {own : Nat → Prop} {b : Nat} {M : Med} {n : Nat} (h : IsMed w own b M n) (f i : Int) :
    Calls Try.prog 21 #[.pointer (some ⟨b, 0, none⟩), .int .i64 f, .int .i64 i] w fun e w' => e = .returned (.tuple #[.string (M.read f i).1, .int .i64 (M.read f i).2]) ∧ ∃ m, w' = w.drewN m := by
  have hu := Try.underlying67
  obtain ⟨M', hM'⟩ : ∃ X, X = M.read f i := ⟨_, rfl⟩
  rw [← hM']
  unfold Med.read at hM'
  obtain ⟨e1, he1⟩ : ∃ X, X = M.ready f i 64 := ⟨_, rfl⟩
  have hc1 := ready_calls h f i 64
  rw [← he1] at hM' hc1
  have HM := Aside0.mk hM'
  have HE := Aside0.mk he1
  have H := Aside0.mk h
  clear hM' he1 h
  go_enter Try.func21, Try.ntmps21
  rcases Decidable.em (¬(e1 = 0)) with h0 | h0
  · go_wp2_with (go_at_call 39; refine hc1.mono ?_; rintro e w' ⟨rfl, rfl⟩)
    have e : M' = (⟨#[]⟩, e1) := by rw [HM.out, if_neg h0]
    subst e
    go_ret2
    exact ⟨rfl, 0, rfl⟩
  have h0 := Decidable.not_not.1 h0
  subst h0
  have hz := ready_zero HE.out.symm
  have wff := wf_small (i := f) (by omega) (by omega)
  have wfi := wf_small (i := i) (by omega) (by omega)
  clear hz
  have HM2 : Aside0 (M' = match M.S f i with | some s => (s, 0) | none => (⟨#[]⟩, 41)) := ⟨by rw [HM.out, if_pos rfl]⟩
  clear HM
  go_upto_region 4 with (go_at_call 39; refine hc1.mono ?_; rintro e w' ⟨rfl, rfl⟩)
  clear hc1 HE
  obtain ⟨g, F, r, o1, o2, o3⟩ := H.out
  have hfile := r.file wff
  have c0 : w'.cell? ⟨b, 0, none⟩ = some (.map (some g)) := by have := r.hb; simp [World.cell?, this]
  cases hF : F f with
  | none =>
    rw [hF] at hfile
    have hl := Maps.look_nil true (Maps.int_keyed Try.underlying3) Try.underlying71 (zero_string w') (Maps.keyOf_int_mk Try.underlying3 wfi)
    simp only [if_true] at hl
    have e : M' = (⟨#[]⟩, 41) := by rw [HM2.out, (r.no f hF).2 i]
    subst e
    clear r o1 o2 o3 hF HM2
    go_wp2
    go_ret2
    exact ⟨rfl, 0, rfl⟩
  | some h =>
    obtain ⟨v, ps, hl, hv⟩ := (r.hf f h hF).2.look_ok Try.underlying3 Try.underlying71 (zero_string w') (zd := .lit (.string (⟨#[]⟩ : ByteArray).data.toList)) (zp := []) (RS_mk _ (by decide)) i (wf_key wfi)
    rw [hF] at hfile
    cases hS : M.S f i with
    | none =>
      have e1 : FS M.S f i = none := by unfold FS; rw [hS]; rfl
      rw [e1] at hl hv
      obtain rfl := RS_inv hv
      have e : M' = (⟨#[]⟩, 41) := by rw [HM2.out, hS]
      subst e
      simp only [Option.isSome_none] at hl
      clear r o1 o2 o3 hF HM2 hv e1 hS
      go_wp2
      go_ret2
      exact ⟨rfl, 0, rfl⟩
    | some s =>
      have e1 : FS M.S f i = some (.lit (.string s.data.toList)) := by unfold FS; rw [hS]; rfl
      rw [e1] at hl hv
      obtain rfl := RS_inv hv
      have e : M' = (s, 0) := by rw [HM2.out, hS]
      subst e
      simp only [Option.isSome_some] at hl
      clear r o1 o2 o3 hF HM2 hv e1 hS
      go_wp2
      go_ret2
      exact ⟨rfl, 0, rfl⟩

def Med.arm (M : Med) (x : Int) : Med := { M with left := if x > 0 then x else 0 }
def Med.on (M : Med) : Med := { M with off := false, left := -1 }
set_option maxHeartbeats 16000000 in
set_option maxRecDepth 100000 in
theorem arm_calls {w : World} {own : Nat → Prop} {b : Nat} {M : Med} {n : Nat} (h : IsMed w own b M n) (x : Int) (hx : x ≤ 9223372036854775807) :
    Calls Try.prog 11 #[.pointer (some ⟨b, 0, none⟩), .int .i64 x] w fun e w' => e = .returned (.tuple #[]) ∧ IsMed w' own b (M.arm x) n ∧ Frame own w w' := by
  obtain ⟨g, F, r, o1, o2, o3⟩ := h
  have hu := Try.underlying67
  have f1 : w.frozen? ⟨b, 1, none⟩ = false := by have := r.hb; simp [World.frozen?, this]
  have c1 : w.cell? ⟨b, 1, none⟩ = some (.int .i64 M.left) := by have := r.hb; simp [World.cell?, this]
  have fr1 : ∀ (i : Nat) (v : Value), Frame own w (w.setCell ⟨b, i, none⟩ v) := fun i v => ⟨rfl, rfl, rfl, by simp, fun j _ hj => heap_set_ne (fun e => hj (by rw [e]; exact o1)) i v⟩
  have HX : Aside0 (∀ y, y = (if x > 0 then x else 0) → IsMed (w.setCell ⟨b, 1, none⟩ (.int .i64 y)) own b (M.arm x) n) := ⟨fun y hy => by
    subst hy
    exact ⟨g, F, r.re (heap_set r.hb 1 _) (fun i hi => heap_set_ne hi 1 _) rfl rfl (by omega) (by show -1 ≤ (if x > 0 then x else 0); split <;> omega) (by show (if x > 0 then x else 0) ≤ _; split <;> omega) r.w0 (by have := r.w1; exact this), o1, o2, o3⟩⟩
  clear r o1 o2 o3
  go_enter Try.func11, Try.ntmps11
  by_cases h1 : x > 0
  · go_wp2
    go_end0
    exact ⟨rfl, HX.out x (by rw [if_pos h1]), fr1 1 _⟩
  · by_cases h2 : x = 0
    · subst h2
      go_wp2
      go_end0
      exact ⟨rfl, HX.out 0 (by simp), fr1 1 _⟩
    · have h3 : x < 0 := by omega
      clear h2
      go_wp2
      go_end0
      exact ⟨rfl, HX.out 0 (by rw [if_neg (by omega)]), fr1 1 _⟩
set_option maxHeartbeats 16000000 in
set_option maxRecDepth 100000 in
theorem on_calls {w : World} {own : Nat → Prop} {b : Nat} {M : Med} {n : Nat} (h : IsMed w own b M n) :
    Calls Try.prog 24 #[.pointer (some ⟨b, 0, none⟩)] w fun e w' => e = .returned (.tuple #[]) ∧ IsMed w' own b M.on n ∧ Frame own w w' := by
  obtain ⟨g, F, r, o1, o2, o3⟩ := h
  have hu := Try.underlying67
  have f1 : w.frozen? ⟨b, 1, none⟩ = false := by have := r.hb; simp [World.frozen?, this]
  have f2 : w.frozen? ⟨b, 2, none⟩ = false := by have := r.hb; simp [World.frozen?, this]
  have c1 : w.cell? ⟨b, 1, none⟩ = some (.int .i64 M.left) := by have := r.hb; simp [World.cell?, this]
  have c2 : w.cell? ⟨b, 2, none⟩ = some (.bool M.off) := by have := r.hb; simp [World.cell?, this]
  have fr2 : ∀ (m i i' : Nat) (v v' : Value), Frame own w (((w.drewN m).setCell ⟨b, i, none⟩ v).setCell ⟨b, i', none⟩ v') := fun m i i' v v' => ⟨rfl, rfl, rfl, by simp, fun j _ hj => by
    rw [heap_set_ne (fun e => hj (by rw [e]; exact o1)), heap_set_ne (fun e => hj (by rw [e]; exact o1))]; rfl⟩
  have HX : Aside0 (∀ m, IsMed (((w.drewN m).setCell ⟨b, 2, none⟩ (.bool false)).setCell ⟨b, 1, none⟩ (.int .i64 (-1))) own b M.on n) := ⟨fun m => by
    exact ⟨g, F, r.re (heap_set (heap_set (w := w.drewN m) r.hb 2 _) 1 _) (fun i hi => (heap_set_ne hi 1 _).trans (heap_set_ne hi 2 _)) rfl rfl (by omega) (by show (-1 : Int) ≤ -1; omega) (by show (-1 : Int) ≤ _; omega) r.w0 (by have := r.w1; exact this), o1, o2, o3⟩⟩
  clear r o1 o2 o3
  go_enter Try.func24, Try.ntmps24
  go_wp2
  go_end0
  exact ⟨rfl, HX.out 0, fr2 0 2 1 _ _⟩
set_option maxHeartbeats 16000000 in
set_option maxRecDepth 100000 in
theorem writes_calls {w : World} {own : Nat → Prop} {b : Nat} {M : Med} {n : Nat} (h : IsMed w own b M n) :
    Calls Try.prog 14 #[.pointer (some ⟨b, 0, none⟩)] w fun e w' => e = .returned (.int .i64 M.writes) ∧ w' = w := by
  obtain ⟨g, F, r, o1, o2, o3⟩ := h
  have hu := Try.underlying67
  have c3 : w.cell? ⟨b, 3, none⟩ = some (.int .i64 M.writes) := by have := r.hb; simp [World.cell?, this]
  clear r o1 o2 o3
  go_enter Try.func14, Try.ntmps14
  go_wp2
  go_ret
  exact ⟨rfl, rfl⟩
end Go.Proofs.Ytdjcaogffppdhaa.Med
namespace Go.Proofs.Ytdjcaogffppdhaa.Med
open Go.RowKit Go.ChangeMaps Go.Proofs.Ytdjcaogffppdhaa.IMap Go.Proofs.YtdjcaogffppdhaaW.PrintWords Go.Proofs.YtdjcaogffppdhaaW.PrintLast Go.Proofs.YtdjcaogffppdhaaW.PrintMore
def Med.drop (M : Med) (f : Int) : Med := { M with S := fun g i => if g = f then none else M.S g i, has := fun g => if g = f then false else M.has g }
def Med.remove (M : Med) (f : Int) : Med × Int := if M.ready f 0 64 = 0 then (if M.spend.2 = 0 then (M.spend.1.drop f, 0) else M.spend) else (M, M.ready f 0 64)
/-- A file is taken away. -/
theorem Rep.remove {w : World} {b g : Nat} {F : Int → Option Nat} {M : Med} {n : Nat} (r : Rep w b g F M n) {f : Int} (hw : (Lit.int .i64 f).wf = true) (ty : TypeId) :
    ∃ w', (Builtin.delete_ #[65, 3] ty #[.map (some g), .int .i64 f]).run Try.prog w = .ok (.tuple #[]) w' ∧ Rep w' b g (fun j => if j = f then none else F j) (M.drop f) n ∧ w.mapTurned w' g := by
  obtain ⟨w', e, i', gr⟩ := r.hg.drop Try.underlying3 Try.underlying65 f (wf_key hw) ty
  refine ⟨w', e, ?_, gr⟩
  have lt := r.lt
  have gr' := gr.grown
  have he : ∀ j, j ≠ g → (j = b ∨ j = g ∨ ∃ f, F f = some j) → w'.heap[j]? = w.heap[j]? := fun j hj hjj => gr'.block j (lt j hjj) (fun e => hj (by simpa using e))
  refine ⟨(he b (fun e => r.apart.1 e.symm) (.inl rfl)).trans r.hb, ?_, ?_, ?_, ?_, ?_, r.l0, r.l1, r.w0, r.w1, ?_⟩
  · obtain ⟨D, o, rd⟩ := i'
    refine ⟨D, o, rd.ext fun j => ?_⟩
    unfold FB
    by_cases hj : j = f
    · simp [hj]
    · simp [hj]
  · intro f' k hk
    by_cases hff : f' = f
    · simp [hff] at hk
    · simp only [hff, if_false] at hk
      have := (r.hf f' k hk).2.same (he k (r.hf f' k hk).1 (.inr (.inr ⟨f', hk⟩)))
      refine ⟨(r.hf f' k hk).1, ?_⟩
      obtain ⟨D, o, rd⟩ := this
      refine ⟨D, o, rd.ext fun j => ?_⟩
      unfold FS Med.drop
      simp [hff]
  · intro f' hk
    by_cases hff : f' = f
    · exact ⟨by simp [Med.drop, hff], fun j => by simp [Med.drop, hff]⟩
    · simp only [hff, if_false] at hk
      obtain ⟨a, c⟩ := r.no f' hk
      exact ⟨by simp [Med.drop, hff, a], fun j => by simp [Med.drop, hff, c j]⟩
  · intro f' k hk
    by_cases hff : f' = f
    · simp [hff] at hk
    · simp only [hff, if_false] at hk
      simp [Med.drop, hff, r.yes f' k hk]
  · intro f1 f2 k h1 h2
    by_cases e1 : f1 = f
    · simp [e1] at h1
    · by_cases e2 : f2 = f
      · simp [e2] at h2
      · simp only [e1, if_false] at h1
        simp only [e2, if_false] at h2
        exact r.inj f1 f2 k h1 h2
  · intro f' j s' hs'
    unfold Med.drop at hs'
    by_cases hff : f' = f
    · simp [hff] at hs'
    · simp only [hff, if_false] at hs'; exact r.str f' j s' hs'
set_option maxHeartbeats 16000000 in
set_option maxRecDepth 100000 in
theorem remove_nil (f : Int) (w : World) : Calls Try.prog 19 #[.pointer none, .int .i64 f] w fun e w' => e = .returned (.int .i64 2) ∧ w' = w := by
  go_enter Try.func19, Try.ntmps19
  go_wp2_with (go_at_call 39; refine (ready_nil f 0 64 _).mono ?_; rintro e w' ⟨rfl, rfl⟩)
  go_ret
  exact ⟨rfl, rfl⟩
set_option maxHeartbeats 16000000 in
set_option maxRecDepth 100000 in
theorem remove_calls {w : World} {own : Nat → Prop} {b : Nat} {M : Med} {n : Nat} (h : IsMed w own b M n) (f : Int) (hn : n < 4611686018427380000) :
    Calls Try.prog 19 #[.pointer (some ⟨b, 0, none⟩), .int .i64 f] w fun e w' => e = .returned (.int .i64 (M.remove f).2) ∧ IsMed w' own b (M.remove f).1 (n + 3) ∧ Frame own w w' := by
  have hu := Try.underlying67
  obtain ⟨M', hM'⟩ : ∃ X, X = M.remove f := ⟨_, rfl⟩
  rw [← hM']
  unfold Med.remove at hM'
  obtain ⟨e1, he1⟩ : ∃ X, X = M.ready f 0 64 := ⟨_, rfl⟩
  have hc1 := ready_calls h f 0 64
  rw [← he1] at hM' hc1
  have HM := Aside0.mk hM'
  have HE := Aside0.mk he1
  have H := Aside0.mk h
  clear hM' he1 h
  go_enter Try.func19, Try.ntmps19
  rcases Decidable.em (¬(e1 = 0)) with h0 | h0
  · go_wp2_with (go_at_call 39; refine hc1.mono ?_; rintro e w' ⟨rfl, rfl⟩)
    go_ret
    have e : M' = (M, e1) := by rw [HM.out, if_neg h0]
    subst e
    exact ⟨rfl, H.out.mono (by omega), Frame.refl _ _⟩
  have h0 := Decidable.not_not.1 h0
  subst h0
  have hz := ready_zero HE.out.symm
  have wff := wf_small (i := f) (by omega) (by omega)
  clear hz
  have HM2 : Aside0 (M' = if M.spend.2 = 0 then (M.spend.1.drop f, 0) else M.spend) := ⟨by rw [HM.out, if_pos rfl]⟩
  clear HM
  have hc2 := spend_calls H.out (by omega)
  obtain ⟨M1, hM1⟩ : ∃ X, X = M.spend.1 := ⟨_, rfl⟩
  obtain ⟨e2, he2⟩ : ∃ X, X = M.spend.2 := ⟨_, rfl⟩
  rw [← hM1, ← he2] at hc2
  have HM3 : Aside0 (M' = if e2 = 0 then (M1.drop f, 0) else (M1, e2)) := ⟨by rw [HM2.out, hM1, he2]⟩
  clear HM2 hM1 he2
  rcases Decidable.em (¬(e2 = 0)) with h2 | h2
  · go_wp2_with (first | (go_at_call 39; refine hc1.mono ?_; rintro e w' ⟨rfl, rfl⟩) | (go_at_call 40; refine hc2.mono ?_; rintro e w1 ⟨rfl, hm1, hf1⟩; have HM1 := Aside0.mk hm1; have HF1 := Aside0.mk hf1; clear hm1 hf1))
    go_ret
    have e : M' = (M1, e2) := by rw [HM3.out, if_neg h2]
    subst e
    exact ⟨rfl, HM1.out.mono (by omega), HF1.out⟩
  have h2 := Decidable.not_not.1 h2
  subst h2
  have e : M' = (M1.drop f, 0) := by rw [HM3.out, if_pos rfl]
  clear HM3
  go_upto_region 7 with (first | (go_at_call 39; refine hc1.mono ?_; rintro e w' ⟨rfl, rfl⟩) | (go_at_call 40; refine hc2.mono ?_; rintro e w1 ⟨rfl, hm1, hf1⟩; have HM1 := Aside0.mk hm1; have HF1 := Aside0.mk hf1; clear hm1 hf1))
  clear hc1 hc2 HE H
  obtain ⟨g, F, r, o1, o2, o3⟩ := HM1.out
  have c0 : w1.cell? ⟨b, 0, none⟩ = some (.map (some g)) := by have := r.hb; simp [World.cell?, this]
  obtain ⟨w3, u3, r3, g3⟩ := r.remove wff 0
  have R3 : Aside0 (IsMed w3 own b (M1.drop f) (n + 3)) := ⟨g, _, r3.mono (by omega), o1, o2, fun f' k hk => by
    by_cases hff : f' = f
    · simp [hff] at hk
    · simp only [hff, if_false] at hk
      exact o3 f' k hk⟩
  have FR : Aside0 (Frame own w' w3) := ⟨HF1.out.trans (Frame.of_grown g3.grown o2) (fun j hj => .inl hj)⟩
  clear r r3 g3 o1 o2 o3
  go_wp2
  go_ret
  subst e
  exact ⟨rfl, R3.out, FR.out⟩
end Go.Proofs.Ytdjcaogffppdhaa.Med
