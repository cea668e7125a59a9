/- The program's media: Remove. -/
import Derived.Test.YtdjcaogffppdhaaMedW
set_option linter.unusedVariables false
set_option linter.unusedSimpArgs false
namespace Go.Proofs.Ytdjcaogffppdhaa.Med
open Go.RowKit Go.ChangeMaps Go.Proofs.Ytdjcaogffppdhaa.IMap Go.Proofs.YtdjcaogffppdhaaW.PrintWords Go.Proofs.YtdjcaogffppdhaaW.PrintLast Go.Proofs.YtdjcaogffppdhaaW.PrintMore
def Med.drop (M : Med) (f : Int) : Med := { M with S := fun g i => if g = f then none else M.S g i, has := fun g => if g = f then false else M.has g }
def Med.remove (M : Med) (f : Int) : Med × Int := if M.ready f 0 64 = 0 then (if M.spend.2 = 0 then (M.spend.1.drop f, 0) else M.spend) else (M, M.ready f 0 64)
/-- A file is taken away. -/
theorem Rep.remove {w : World} {b g : Nat} {F : Int → Option Nat} {M : Med} {n : Nat} (r : Rep w b g F M n) {f : Int} (hw : (Lit.int .i64 f).wf = true) (ty : TypeId) :
    ∃ w', (Builtin.delete_ #[65, 3] ty #[.map (some g), .int .i64 f]).run Try.prog w = .ok (.tuple #[]) w' ∧ Rep w' b g (fun j => if j = f then none else F j) (M.drop f) n ∧ w.mapTurned w' g := by
  obtain ⟨w', e, i', gr⟩ := r.hg.drop Try.underlying3 Try.underlying65 f (wf_key hw) ty
  refine ⟨w', e, ?_, gr⟩
  have lt := r.lt
  have gr' := gr.grown
  have he : ∀ j, j ≠ g → (j = b ∨ j = g ∨ ∃ f, F f = some j) → w'.heap[j]? = w.heap[j]? := fun j hj hjj => gr'.block j (lt j hjj) (fun e => hj (by simpa using e))
  refine ⟨(he b (fun e => r.apart.1 e.symm) (.inl rfl)).trans r.hb, ?_, ?_, ?_, ?_, ?_, r.l0, r.l1, r.w0, r.w1, ?_⟩
  · obtain ⟨D, o, rd⟩ := i'
    refine ⟨D, o, rd.ext fun j => ?_⟩
    unfold FB
    by_cases hj : j = f
    · simp [hj]
    · simp [hj]
  · intro f' k hk
    by_cases hff : f' = f
    · simp [hff] at hk
    · simp only [hff, if_false] at hk
      have := (r.hf f' k hk).2.same (he k (r.hf f' k hk).1 (.inr (.inr ⟨f', hk⟩)))
      refine ⟨(r.hf f' k hk).1, ?_⟩
      obtain ⟨D, o, rd⟩ := this
      refine ⟨D, o, rd.ext fun j => ?_⟩
      unfold FS Med.drop
      simp [hff]
  · intro f' hk
    by_cases hff : f' = f
    · exact ⟨by simp [Med.drop, hff], fun j => by simp [Med.drop, hff]⟩
    · simp only [hff, if_false] at hk
      obtain ⟨a, c⟩ := r.no f' hk
      exact ⟨by simp [Med.drop, hff, a], fun j => by simp [Med.drop, hff, c j]⟩
  · intro f' k hk
    by_cases hff : f' = f
    · simp [hff] at hk
    · simp only [hff, if_false] at hk
      simp [Med.drop, hff, r.yes f' k hk]
  · intro f1 f2 k h1 h2
    by_cases e1 : f1 = f
    · simp [e1] at h1
    · by_cases e2 : f2 = f
      · simp [e2] at h2
      · simp only [e1, if_false] at h1
        simp only [e2, if_false] at h2
        exact r.inj f1 f2 k h1 h2
  · intro f' j s' hs'
    unfold Med.drop at hs'
    by_cases hff : f' = f
    · simp [hff] at hs'
    · simp only [hff, if_false] at hs'; exact r.str f' j s' hs'
set_option maxHeartbeats 16000000 in
set_option maxRecDepth 100000 in
theorem remove_nil (f : Int) (w : World) : Calls Try.prog 19 #[.pointer none, .int .i64 f] w fun e w' => e = .returned (.int .i64 2) ∧ w' = w := by
  go_enter Try.func19, Try.ntmps19
  go_wp2_with (go_at_call 39; refine (ready_nil f 0 64 _).mono ?_; rintro e w' ⟨rfl, rfl⟩)
  go_ret
  exact ⟨rfl, rfl⟩
set_option maxHeartbeats 16000000 in
set_option maxRecDepth 100000 in
theorem remove_calls {w : World} {own : Nat → Prop} {b : Nat} {M : Med} {n : Nat} (h : IsMed w own b M n) (f : Int) (hn : n < 4611686018427380000) :
    Calls Try.prog 19 #[.pointer (some ⟨b, 0, none⟩), .int .i64 f] w fun e w' => e = .returned (.int .i64 (M.remove f).2) ∧ IsMed w' own b (M.remove f).1 (n + 3) ∧ Frame own w w' := by
  have hu := Try.underlying67
  obtain ⟨M', hM'⟩ : ∃ X, X = M.remove f := ⟨_, rfl⟩
  rw [← hM']
  unfold Med.remove at hM'
  obtain ⟨e1, he1⟩ : ∃ X, X = M.ready f 0 64 := ⟨_, rfl⟩
  have hc1 := ready_calls h f 0 64
  rw [← he1] at hM' hc1
  have HM := Aside0.mk hM'
  have HE := Aside0.mk he1
  have H := Aside0.mk h
  clear hM' he1 h
  go_enter Try.func19, Try.ntmps19
  rcases Decidable.em (¬(e1 = 0)) with h0 | h0
  · go_wp2_with (go_at_call 39; refine hc1.mono ?_; rintro e w' ⟨rfl, rfl⟩)
    go_ret
    have e : M' = (M, e1) := by rw [HM.out, if_neg h0]
    subst e
    exact ⟨rfl, H.out.mono (by omega), Frame.refl _ _⟩
  have h0 := Decidable.not_not.1 h0
  subst h0
  have hz := ready_zero HE.out.symm
  have wff := wf_small (i := f) (by omega) (by omega)
  clear hz
  have HM2 : Aside0 (M' = if M.spend.2 = 0 then (M.spend.1.drop f, 0) else M.spend) := ⟨by rw [HM.out, if_pos rfl]⟩
  clear HM
  have hc2 := spend_calls H.out (by omega)
  obtain ⟨M1, hM1⟩ : ∃ X, X = M.spend.1 := ⟨_, rfl⟩
  obtain ⟨e2, he2⟩ : ∃ X, X = M.spend.2 := ⟨_, rfl⟩
  rw [← hM1, ← he2] at hc2
  have HM3 : Aside0 (M' = if e2 = 0 then (M1.drop f, 0) else (M1, e2)) := ⟨by rw [HM2.out, hM1, he2]⟩
  clear HM2 hM1 he2
  rcases Decidable.em (¬(e2 = 0)) with h2 | h2
  · go_wp2_with (first | (go_at_call 39; refine hc1.mono ?_; rintro e w' ⟨rfl, rfl⟩) | (go_at_call 40; refine hc2.mono ?_; rintro e w1 ⟨rfl, hm1, hf1⟩; have HM1 := Aside0.mk hm1; have HF1 := Aside0.mk hf1; clear hm1 hf1))
    go_ret
    have e : M' = (M1, e2) := by rw [HM3.out, if_neg h2]
    subst e
    exact ⟨rfl, HM1.out.mono (by omega), HF1.out⟩
  have h2 := Decidable.not_not.1 h2
  subst h2
  have e : M' = (M1.drop f, 0) := by rw [HM3.out, if_pos rfl]
  clear HM3
  go_upto_region 7 with (first | (go_at_call 39; refine hc1.mono ?_; rintro e w' ⟨rfl, rfl⟩) | (go_at_call 40; refine hc2.mono ?_; rintro e w1 ⟨rfl, hm1, hf1⟩; have HM1 := Aside0.mk hm1; have HF1 := Aside0.mk hf1; clear hm1 hf1))
  clear hc1 hc2 HE H
  obtain ⟨g, F, r, o1, o2, o3⟩ := HM1.out
  have c0 : w1.cell? ⟨b, 0, none⟩ = some (.map (some g)) := by have := r.hb; simp [World.cell?, this]
  obtain ⟨w3, u3, r3, g3⟩ := r.remove wff 0
  have R3 : Aside0 (IsMed w3 own b (M1.drop f) (n + 3)) := ⟨g, _, r3.mono (by omega), o1, o2, fun f' k hk => by
    by_cases hff : f' = f
    · simp [hff] at hk
    · simp only [hff, if_false] at hk
      exact o3 f' k hk⟩
  have FR : Aside0 (Frame own w' w3) := ⟨HF1.out.trans (Frame.of_grown g3.grown o2) (fun j hj => .inl hj)⟩
  clear r r3 g3 o1 o2 o3
  go_wp2
  go_ret
  subst e
  exact ⟨rfl, R3.out, FR.out⟩
end Go.Proofs.Ytdjcaogffppdhaa.Med
