/- The program's media: which files there are. -/
import Derived.Test.YtdjcaogffppdhaaLogMedA
import Derived.Test.YtdjcaogffppdhaaShelfI
set_option linter.unusedVariables false
set_option linter.unusedSimpArgs false
namespace Go.Proofs.Ytdjcaogffppdhaa.Med
open Go.RowKit Go.Maps Go.Sort Go.Shelf Go.ChangeMaps Go.Proofs.Ytdjcaogffppdhaa.IMap Go.Proofs.YtdjcaogffppdhaaW.PrintWords Go.Proofs.YtdjcaogffppdhaaW.PrintLast Go.Proofs.YtdjcaogffppdhaaW.PrintMore
/-- l is the files that there are, rising. -/
structure IsFiles (M : Med) (l : List Int) : Prop where
  up : l.Pairwise (· < ·)
  mem : ∀ f, f ∈ l ↔ M.has f = true
/-- The files' numbers are those that files may have. -/
def Filed (M : Med) : Prop := ∀ f, M.has f = true → 0 ≤ f ∧ f < 1048576
theorem IsFiles.same {M : Med} {l l' : List Int} (h : IsFiles M l) (h' : IsFiles M l') : l = l' := by
  have hp : l.Perm l' := (List.perm_ext_iff_of_nodup (h.up.imp fun h => Int.ne_of_lt h) (h'.up.imp fun h => Int.ne_of_lt h)).2 fun f => (h.mem f).trans (h'.mem f).symm
  exact hp.eq_of_pairwise (fun a b _ _ h1 h2 => by omega) h.up h'.up
theorem Filed.new : Filed Med.new := fun _ h => by cases h
theorem Filed.spend {M : Med} (h : Filed M) : Filed M.spend.1 := by
  unfold Med.spend
  split
  · exact h
  · exact h
theorem Filed.write {M : Med} (h : Filed M) (f i : Int) (s : ByteArray) : Filed (M.write f i s).1 := by
  unfold Med.write
  split
  · rename_i h0
    obtain ⟨a, b, _⟩ := ready_zero h0
    split
    · intro g hg
      by_cases e : g = f
      · exact ⟨by omega, by omega⟩
      · exact h.spend g (by simpa [Med.put, Med.made, e] using hg)
    · exact h.spend
  · exact h
theorem Filed.remove {M : Med} (h : Filed M) (f : Int) : Filed (M.remove f).1 := by
  unfold Med.remove
  split
  · split
    · intro g hg
      by_cases e : g = f
      · simp [Med.drop, e] at hg
      · exact h.spend g (by simpa [Med.drop, e] using hg)
    · exact h.spend
  · exact h
theorem Filed.arm {M : Med} (h : Filed M) (x : Int) : Filed (M.arm x) := h
theorem Filed.on {M : Med} (h : Filed M) : Filed M.on := h
theorem sorted_files {D : D0} {F : Int → Option Nat} {M : Med} {w : World} {g b n : Nat} (r : Rep w b g F M n) (hD : Reads D (FB F)) (hown : w.ownsMap Try.prog 3 RB g n D) (hfd : Filed M) {ss : List Int} (hp : ss.Perm (intKeys D)) :
    IsFiles M (ss.mergeSort fun x y => decide (x ≤ y)) := by
  have hwf := intKeys_wf hown Try.underlying3
  obtain ⟨es, hDe, hpw, _⟩ := hown.entries (Maps.int_keyed Try.underlying3)
  obtain ⟨es', hDe', hko⟩ := hown.keysOf
  obtain rfl : es = es' := by rw [hDe] at hDe'; simpa using hDe'
  subst hDe
  have hkey : ∀ p ∈ es, ∃ x, p.1 = .int .i64 x := fun p hp => by obtain ⟨v, hv⟩ := hko p hp; obtain ⟨x, _, hx, _⟩ := Maps.keyOf_i64 Try.underlying3 hv; exact ⟨x, hx⟩
  have nd : (intKeys (.map es)).Nodup := by
    show (es.map fun p => Go.intOf p.1).Nodup
    refine List.pairwise_map.2 (hpw.imp_of_mem fun {p q} hp' hq' hne e => hne ?_)
    obtain ⟨a, ha⟩ := hkey p hp'
    obtain ⟨b, hb⟩ := hkey q hq'
    rw [ha, hb] at e ⊢
    exact congrArg _ e
  have hmem : ∀ f, f ∈ intKeys (.map es) ↔ Maps.has (.map es) (.int .i64 f) = true := fun f => by
    rw [has_eq, List.any_eq_true]
    show (f ∈ es.map fun p => Go.intOf p.1) ↔ _
    rw [List.mem_map]
    constructor
    · rintro ⟨p, hp', rfl⟩
      obtain ⟨a, ha⟩ := hkey p hp'
      exact ⟨p, hp', by rw [ha]; simp [Lit.sameKey, Go.intOf]⟩
    · rintro ⟨p, hp', hs⟩
      obtain ⟨a, ha⟩ := hkey p hp'
      rw [ha] at hs
      exact ⟨p, hp', by rw [ha]; simpa [Lit.sameKey, Go.intOf] using hs⟩
  have tr : ∀ a b c : Int, decide (a ≤ b) = true → decide (b ≤ c) = true → decide (a ≤ c) = true := fun a b c h1 h2 => by simp only [decide_eq_true_eq] at *; exact Int.le_trans h1 h2
  have tot : ∀ a b : Int, (decide (a ≤ b) || decide (b ≤ a)) = true := fun a b => by simp only [Bool.or_eq_true, decide_eq_true_eq]; exact Int.le_total a b
  have hp2 : (ss.mergeSort fun x y => decide (x ≤ y)).Perm (intKeys (.map es)) := (List.mergeSort_perm ss _).trans hp
  refine ⟨?_, fun f => ?_⟩
  · have h1 := List.pairwise_mergeSort tr tot ss
    have h2 : (ss.mergeSort fun x y => decide (x ≤ y)).Pairwise (· ≠ ·) := (hp2.pairwise_iff (fun {a b} h => Ne.symm h)).2 nd
    exact (h1.and h2).imp fun ⟨h, h'⟩ => by simp only [decide_eq_true_eq] at h; omega
  · rw [hp2.mem_iff]
    constructor
    · intro hf
      have h1 := (hmem f).1 hf
      have h2 := (hD.2 f (hwf f hf)).1
      have h3 : (FB F f).isSome = true := h2.symm.trans h1
      cases hF : F f with
      | none => unfold FB at h3; rw [hF] at h3; cases h3
      | some k => exact r.yes f k hF
    · intro hf
      obtain ⟨a, c⟩ := hfd f hf
      have hw : (key f).wf = true := wf_small (by omega) (by omega)
      refine (hmem f).2 ((hD.2 f hw).1.trans ?_)
      cases hF : F f with
      | none => have := (r.no f hF).1; rw [this] at hf; cases hf
      | some k => unfold FB; rw [hF]; rfl
/-- slices.Sort's two contracts at this dump. -/
theorem sortsA (m : Nat) : AnyZI.SortsIn Try.prog Try.sortedA_ren Fence.wide m :=
  ⟨fun blk off cap ss W hH hblk hsz => callsIn_wide.2 (AnyM.slices_Sort_int Try.sortA blk off cap ss W hH hblk hsz),
   fun p cap W => callsIn_wide.2 (AnyM.slices_Sort_int_none Try.sortA p cap W)⟩
set_option maxHeartbeats 4000000 in
set_option maxRecDepth 100000 in
theorem files_nil (w : World) : Calls Try.prog 27 #[.pointer none] w fun e w' => e = .returned (.slice none 0 0) ∧ w = w' := by
  go_enter Try.func27, Try.ntmps27
  go_wp2
  go_ret
  exact ⟨rfl, rfl⟩
set_option maxHeartbeats 8000000 in
set_option maxRecDepth 100000 in
theorem files_calls {w : World} {own : Nat → Prop} {b : Nat} {M : Med} {n : Nat} (h : IsMed w own b M n) (hfd : Filed M) (hn : n ≤ 10000000000000) :
    Calls Try.prog 27 #[.pointer (some ⟨b, 0, none⟩)] w fun e w' => ∃ (v : Value) (l : List Int), e = .returned v ∧ IsFiles M l ∧ w'.ownsRow w.heap.size 3 1 v l.length (l.map (Value.int .i64)) ∧ Below w.heap.size w w' := by
  have hu := Try.underlying67
  obtain ⟨g, F, r, o1, o2, o3⟩ := h
  have c0 : w.cell? ⟨b, 0, none⟩ = some (.map (some g)) := by have := r.hb; simp [World.cell?, this]
  obtain ⟨D, hown, hD⟩ := r.hg
  have hmax : Maps.size D ≤ maxLen := by have := hown.size_le; unfold maxLen; omega
  have hbytes : Maps.size D * 8 ≤ 140737488355328 := by have := hown.size_le; omega
  have HF : Aside0 (∀ ss : List Int, ss.Perm (intKeys D) → IsFiles M (ss.mergeSort fun x y => decide (x ≤ y))) := ⟨fun ss hs => sorted_files r hD hown hfd hs⟩
  clear hD r o1 o2 o3
  refine (callsIn_wide (n := 6)).1 ?_
  have hbl := hown.lt
  have hseq : SeqGives Fence.wide 2 Try.prog 51 #[.pointer (some ⟨w.heap.size, 0, none⟩)] encZ (fun ss => ss.Perm (intKeys D)) (Maps.size D) (w.alloc (.cells #[.map (some g)] 65)) :=
    AnyZI.keys_gives (ρ := Try.keysA_ren) { Try.keysA with } Fence.wide _ trivial rfl (by omega) w.heap.size g n D _ (by simp) (by simp) (by
      obtain ⟨es, clock, hb, Ft, hs, hD⟩ := hown
      exact ⟨es, clock, (Below.heap_alloc _ _ g hbl).trans hb, Ft, hs, hD⟩)
  have cK : ∀ mb W, CallsIn Fence.wide 5 Try.prog 44 #[.map mb] W fun e w' => e = .returned (.func (.func 51) #[] #[.pointer (some ⟨W.heap.size, 0, none⟩)]) ∧ w' = W.alloc (.cells #[.map mb] 65) := fun mb W => AnyZI.keys_in Try.keysA Fence.wide 5 trivial rfl mb W
  have cS := AnyZI.sorted_in Try.sortedA Fence.wide 5 trivial trivial trivial trivial rfl (by omega) (sortsA _) (enters_of Try.func50 (by kernel_rfl) rfl) 51 #[.pointer (some ⟨w.heap.size, 0, none⟩)] trivial (enters_of Try.func51 (by kernel_rfl) rfl) _ _ hmax hbytes _ hseq
  change CallsIn _ _ Try.prog 43 _ _ _ at cS
  have hfK : Fence.wide.fn 44 := trivial
  have hfS : Fence.wide.fn 43 := trivial
  clear hown hseq hmax hbytes
  refine callsIn_of_wp Try.func27 rfl trivial ?_ rfl
  simp only [Try.ntmps27, List.size_toArray, List.length_cons, List.length_nil, Nat.reduceAdd, Nat.reduceSub, Array.replicate_succ, Array.replicate_zero, List.push_toArray, List.append_toArray, List.nil_append, List.cons_append]
  gi_wp2_with (first
    | (gi_at_call 44; refine (cK _ _).mono ?_; rintro e w' ⟨rfl, rfl⟩)
    | (gi_at_call 43; refine cS.mono ?_; rintro e w' ⟨v, ss, rfl, hS, hrow, hnil, hb⟩))
  go_ret
  have hl : (ss.mergeSort fun x y => decide (x ≤ y)).length = ss.length := List.length_mergeSort ss
  exact ⟨v, _, rfl, HF.out ss hS, by rw [hl]; exact ownsRow_base_a hrow (by simp), ((Below.refl _ w).alloc (Nat.le_refl _) _).trans (hb.mono (by simp))⟩
end Go.Proofs.Ytdjcaogffppdhaa.Med
