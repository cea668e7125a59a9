/- The program's media: Write, Read, and what turns its power. -/
import Derived.Test.YtdjcaogffppdhaaMed
set_option linter.unusedVariables false
set_option linter.unusedSimpArgs false
namespace Go.Proofs.Ytdjcaogffppdhaa.Med
open Go.RowKit Go.ChangeMaps Go.Proofs.Ytdjcaogffppdhaa.IMap Go.Proofs.YtdjcaogffppdhaaW.PrintWords Go.Proofs.YtdjcaogffppdhaaW.PrintLast Go.Proofs.YtdjcaogffppdhaaW.PrintMore
theorem eql_none (w : World) : (binOp BinOp.eql 71 (.map none) (.map none)).run Try.prog w = .ok (.bool true) w := by
  first | kernel_rfl | simp [binOp, run_underlying Try.underlying71]
theorem eql_some (h : Nat) (w : World) : (binOp BinOp.eql 71 (.map (some h)) (.map none)).run Try.prog w = .ok (.bool false) w := by
  first | kernel_rfl | simp [binOp, run_underlying Try.underlying71]
set_option maxHeartbeats 16000000 in
set_option maxRecDepth 100000 in
theorem write_calls {w : World} {own : Nat → Prop} {b : Nat} {M : Med} {n : Nat} (h : IsMed w own b M n) (f i : Int) (s : ByteArray) (hs : s.size ≤ 9223372036854775807) (hn : n < 4611686018427380000) :
    Calls Try.prog 12 #[.pointer (some ⟨b, 0, none⟩), .int .i64 f, .int .i64 i, .string s] w fun e w' => ∃ own', e = .returned (.int .i64 (M.write f i s).2) ∧ IsMed w' own' b (M.write f i s).1 (n + 3) ∧ (∀ j, own' j → own j ∨ w.heap.size ≤ j) ∧ Frame own w w' := by
  have hu := Try.underlying67
  obtain ⟨M', hM'⟩ : ∃ X, X = M.write f i s := ⟨_, rfl⟩
  rw [← hM']
  unfold Med.write at hM'
  obtain ⟨e1, he1⟩ : ∃ X, X = M.ready f i s.size := ⟨_, rfl⟩
  have hc1 := ready_calls h f i s.size
  rw [← he1] at hM' hc1
  have HM := Aside0.mk hM'
  have HE := Aside0.mk he1
  have H := Aside0.mk h
  clear hM' he1 h
  go_enter Try.func12, Try.ntmps12
  rcases Decidable.em (¬(e1 = 0)) with h0 | h0
  · go_wp2_with (go_at_call 39; refine hc1.mono ?_; rintro e w' ⟨rfl, rfl⟩)
    go_ret
    have e : M' = (M, e1) := by rw [HM.out, if_neg h0]
    subst e
    exact ⟨own, rfl, H.out.mono (by omega), fun j hj => .inl hj, Frame.refl _ _⟩
  have h0 := Decidable.not_not.1 h0
  subst h0
  have hz := ready_zero HE.out.symm
  have HS64 : Aside0 (s.size = 64) := ⟨by omega⟩
  have wff := wf_small (i := f) (by omega) (by omega)
  have wfi := wf_small (i := i) (by omega) (by omega)
  clear hz
  have HM2 : Aside0 (M' = if M.spend.2 = 0 then ((M.spend.1.made f).put f i s, 0) else M.spend) := ⟨by rw [HM.out, if_pos rfl]⟩
  clear HM
  have hc2 := spend_calls H.out (by omega)
  obtain ⟨M1, hM1⟩ : ∃ X, X = M.spend.1 := ⟨_, rfl⟩
  obtain ⟨e2, he2⟩ : ∃ X, X = M.spend.2 := ⟨_, rfl⟩
  rw [← hM1, ← he2] at hc2
  have HM3 : Aside0 (M' = if e2 = 0 then ((M1.made f).put f i s, 0) else (M1, e2)) := ⟨by rw [HM2.out, hM1, he2]⟩
  clear HM2 hM1 he2
  rcases Decidable.em (¬(e2 = 0)) with h2 | h2
  · go_wp2_with (first | (go_at_call 39; refine hc1.mono ?_; rintro e w' ⟨rfl, rfl⟩) | (go_at_call 40; refine hc2.mono ?_; rintro e w1 ⟨rfl, hm1, hf1⟩; have HM1 := Aside0.mk hm1; have HF1 := Aside0.mk hf1; clear hm1 hf1))
    go_ret
    have e : M' = (M1, e2) := by rw [HM3.out, if_neg h2]
    subst e
    exact ⟨own, rfl, HM1.out.mono (by omega), fun j hj => .inl hj, HF1.out⟩
  have h2 := Decidable.not_not.1 h2
  subst h2
  have e : M' = ((M1.made f).put f i s, 0) := by rw [HM3.out, if_pos rfl]
  clear HM3
  go_upto_region 7 with (first | (go_at_call 39; refine hc1.mono ?_; rintro e w' ⟨rfl, rfl⟩) | (go_at_call 40; refine hc2.mono ?_; rintro e w1 ⟨rfl, hm1, hf1⟩; have HM1 := Aside0.mk hm1; have HF1 := Aside0.mk hf1; clear hm1 hf1))
  clear hc1 hc2 HE H
  obtain ⟨g, F, r, o1, o2, o3⟩ := HM1.out
  have hfile := r.file wff
  have c0 : w1.cell? ⟨b, 0, none⟩ = some (.map (some g)) := by have := r.hb; simp [World.cell?, this]
  have hsz := HF1.out.size
  cases hF : F f with
  | none =>
    obtain ⟨w2, u2, r2, g2⟩ := r.newfile hF wff (by omega)
    have hF2 : (fun j => if j = f then some w1.heap.size else F j) f = some w1.heap.size := by simp
    obtain ⟨w3, u3, r3, g3⟩ := r2.store hF2 wfi HS64.out (by omega)
    have hfile2 := r2.file wff
    simp only [if_true] at hfile2
    rw [hF] at hfile
    have c0' : w2.cell? ⟨b, 0, none⟩ = some (.map (some g)) := by have := r2.hb; simp [World.cell?, this]
    have hm := run_makeMap (P := Try.prog) 71 w1
    have R3 : Aside0 (IsMed w3 (fun j => own j ∨ w'.heap.size ≤ j) b ((M1.made f).put f i s) (n + 3)) := ⟨g, _, r3.mono (by omega), .inl o1, .inl o2, fun f' k hk => by
      by_cases hff : f' = f
      · simp only [hff, if_true] at hk
        have := Option.some.inj hk
        exact .inr (by omega)
      · simp only [hff, if_false] at hk
        exact .inl (o3 f' k hk)⟩
    have FR : Aside0 (Frame own w' w3) := ⟨(HF1.out.trans (Frame.of_grown (grown_alloc g2) o2) (fun j hj => .inl hj)).trans (Frame.of_grown (own := fun j => j = w1.heap.size) g3 rfl) (fun j hj => .inr (by omega))⟩
    clear r r2 r3 g2 g3 o1 o2 o3 hF hF2
    have hq := eql_none w1
    go_wp2
    go_ret
    subst e
    exact ⟨_, rfl, R3.out, fun j hj => hj, FR.out⟩
  | some h =>
    obtain ⟨w3, u3, r3, g3⟩ := (r.there hF).store hF wfi HS64.out (by omega)
    rw [hF] at hfile
    have R3 : Aside0 (IsMed w3 own b ((M1.made f).put f i s) (n + 3)) := ⟨g, _, r3.mono (by omega), o1, o2, o3⟩
    have FR : Aside0 (Frame own w' w3) := ⟨HF1.out.trans (Frame.of_grown g3 (o3 f h hF)) (fun j hj => .inl hj)⟩
    clear r r3 g3 o1 o2 o3 hF
    have hq := eql_some h w1
    go_wp2
    go_ret
    subst e
    exact ⟨_, rfl, R3.out, fun j hj => .inl hj, FR.out⟩
def Med.read (M : Med) (f i : Int) : ByteArray × Int := if M.ready f i 64 = 0 then (match M.S f i with | some s => (s, 0) | none => (⟨#[]⟩, 41)) else (⟨#[]⟩, M.ready f i 64)
set_option maxHeartbeats 16000000 in
set_option maxRecDepth 100000 in
theorem read_calls {w : World} {own : Nat → Prop} {b : Nat} {M : Med} {n : Nat} (h : IsMed w own b M n) (f i : Int) :
    Calls Try.prog 21 #[.pointer (some ⟨b, 0, none⟩), .int .i64 f, .int .i64 i] w fun e w' => e = .returned (.tuple #[.string (M.read f i).1, .int .i64 (M.read f i).2]) ∧ ∃ m, w' = w.drewN m := by
  have hu := Try.underlying67
  obtain ⟨M', hM'⟩ : ∃ X, X = M.read f i := ⟨_, rfl⟩
  rw [← hM']
  unfold Med.read at hM'
  obtain ⟨e1, he1⟩ : ∃ X, X = M.ready f i 64 := ⟨_, rfl⟩
  have hc1 := ready_calls h f i 64
  rw [← he1] at hM' hc1
  have HM := Aside0.mk hM'
  have HE := Aside0.mk he1
  have H := Aside0.mk h
  clear hM' he1 h
  go_enter Try.func21, Try.ntmps21
  rcases Decidable.em (¬(e1 = 0)) with h0 | h0
  · go_wp2_with (go_at_call 39; refine hc1.mono ?_; rintro e w' ⟨rfl, rfl⟩)
    have e : M' = (⟨#[]⟩, e1) := by rw [HM.out, if_neg h0]
    subst e
    go_ret2
    exact ⟨rfl, 0, rfl⟩
  have h0 := Decidable.not_not.1 h0
  subst h0
  have hz := ready_zero HE.out.symm
  have wff := wf_small (i := f) (by omega) (by omega)
  have wfi := wf_small (i := i) (by omega) (by omega)
  clear hz
  have HM2 : Aside0 (M' = match M.S f i with | some s => (s, 0) | none => (⟨#[]⟩, 41)) := ⟨by rw [HM.out, if_pos rfl]⟩
  clear HM
  go_upto_region 4 with (go_at_call 39; refine hc1.mono ?_; rintro e w' ⟨rfl, rfl⟩)
  clear hc1 HE
  obtain ⟨g, F, r, o1, o2, o3⟩ := H.out
  have hfile := r.file wff
  have c0 : w'.cell? ⟨b, 0, none⟩ = some (.map (some g)) := by have := r.hb; simp [World.cell?, this]
  cases hF : F f with
  | none =>
    rw [hF] at hfile
    have hl := Maps.look_nil true (Maps.int_keyed Try.underlying3) Try.underlying71 (zero_string w') (Maps.keyOf_int_mk Try.underlying3 wfi)
    simp only [if_true] at hl
    have e : M' = (⟨#[]⟩, 41) := by rw [HM2.out, (r.no f hF).2 i]
    subst e
    clear r o1 o2 o3 hF HM2
    go_wp2
    go_ret2
    exact ⟨rfl, 0, rfl⟩
  | some h =>
    obtain ⟨v, ps, hl, hv⟩ := (r.hf f h hF).2.look_ok Try.underlying3 Try.underlying71 (zero_string w') (zd := .lit (.string (⟨#[]⟩ : ByteArray).data.toList)) (zp := []) (RS_mk _ (by decide)) i (wf_key wfi)
    rw [hF] at hfile
    cases hS : M.S f i with
    | none =>
      have e1 : FS M.S f i = none := by unfold FS; rw [hS]; rfl
      rw [e1] at hl hv
      obtain rfl := RS_inv hv
      have e : M' = (⟨#[]⟩, 41) := by rw [HM2.out, hS]
      subst e
      simp only [Option.isSome_none] at hl
      clear r o1 o2 o3 hF HM2 hv e1 hS
      go_wp2
      go_ret2
      exact ⟨rfl, 0, rfl⟩
    | some s =>
      have e1 : FS M.S f i = some (.lit (.string s.data.toList)) := by unfold FS; rw [hS]; rfl
      rw [e1] at hl hv
      obtain rfl := RS_inv hv
      have e : M' = (s, 0) := by rw [HM2.out, hS]
      subst e
      simp only [Option.isSome_some] at hl
      clear r o1 o2 o3 hF HM2 hv e1 hS
      go_wp2
      go_ret2
      exact ⟨rfl, 0, rfl⟩

def Med.arm (M : Med) (x : Int) : Med := { M with left := if x > 0 then x else 0 }
def Med.on (M : Med) : Med := { M with off := false, left := -1 }
set_option maxHeartbeats 16000000 in
set_option maxRecDepth 100000 in
theorem arm_calls {w : World} {own : Nat → Prop} {b : Nat} {M : Med} {n : Nat} (h : IsMed w own b M n) (x : Int) (hx : x ≤ 9223372036854775807) :
    Calls Try.prog 11 #[.pointer (some ⟨b, 0, none⟩), .int .i64 x] w fun e w' => e = .returned (.tuple #[]) ∧ IsMed w' own b (M.arm x) n ∧ Frame own w w' := by
  obtain ⟨g, F, r, o1, o2, o3⟩ := h
  have hu := Try.underlying67
  have f1 : w.frozen? ⟨b, 1, none⟩ = false := by have := r.hb; simp [World.frozen?, this]
  have c1 : w.cell? ⟨b, 1, none⟩ = some (.int .i64 M.left) := by have := r.hb; simp [World.cell?, this]
  have fr1 : ∀ (i : Nat) (v : Value), Frame own w (w.setCell ⟨b, i, none⟩ v) := fun i v => ⟨rfl, rfl, rfl, by simp, fun j _ hj => heap_set_ne (fun e => hj (by rw [e]; exact o1)) i v⟩
  have HX : Aside0 (∀ y, y = (if x > 0 then x else 0) → IsMed (w.setCell ⟨b, 1, none⟩ (.int .i64 y)) own b (M.arm x) n) := ⟨fun y hy => by
    subst hy
    exact ⟨g, F, r.re (heap_set r.hb 1 _) (fun i hi => heap_set_ne hi 1 _) rfl rfl (by omega) (by show -1 ≤ (if x > 0 then x else 0); split <;> omega) (by show (if x > 0 then x else 0) ≤ _; split <;> omega) r.w0 (by have := r.w1; exact this), o1, o2, o3⟩⟩
  clear r o1 o2 o3
  go_enter Try.func11, Try.ntmps11
  by_cases h1 : x > 0
  · go_wp2
    go_end0
    exact ⟨rfl, HX.out x (by rw [if_pos h1]), fr1 1 _⟩
  · by_cases h2 : x = 0
    · subst h2
      go_wp2
      go_end0
      exact ⟨rfl, HX.out 0 (by simp), fr1 1 _⟩
    · have h3 : x < 0 := by omega
      clear h2
      go_wp2
      go_end0
      exact ⟨rfl, HX.out 0 (by rw [if_neg (by omega)]), fr1 1 _⟩
set_option maxHeartbeats 16000000 in
set_option maxRecDepth 100000 in
theorem on_calls {w : World} {own : Nat → Prop} {b : Nat} {M : Med} {n : Nat} (h : IsMed w own b M n) :
    Calls Try.prog 24 #[.pointer (some ⟨b, 0, none⟩)] w fun e w' => e = .returned (.tuple #[]) ∧ IsMed w' own b M.on n ∧ Frame own w w' := by
  obtain ⟨g, F, r, o1, o2, o3⟩ := h
  have hu := Try.underlying67
  have f1 : w.frozen? ⟨b, 1, none⟩ = false := by have := r.hb; simp [World.frozen?, this]
  have f2 : w.frozen? ⟨b, 2, none⟩ = false := by have := r.hb; simp [World.frozen?, this]
  have c1 : w.cell? ⟨b, 1, none⟩ = some (.int .i64 M.left) := by have := r.hb; simp [World.cell?, this]
  have c2 : w.cell? ⟨b, 2, none⟩ = some (.bool M.off) := by have := r.hb; simp [World.cell?, this]
  have fr2 : ∀ (m i i' : Nat) (v v' : Value), Frame own w (((w.drewN m).setCell ⟨b, i, none⟩ v).setCell ⟨b, i', none⟩ v') := fun m i i' v v' => ⟨rfl, rfl, rfl, by simp, fun j _ hj => by
    rw [heap_set_ne (fun e => hj (by rw [e]; exact o1)), heap_set_ne (fun e => hj (by rw [e]; exact o1))]; rfl⟩
  have HX : Aside0 (∀ m, IsMed (((w.drewN m).setCell ⟨b, 2, none⟩ (.bool false)).setCell ⟨b, 1, none⟩ (.int .i64 (-1))) own b M.on n) := ⟨fun m => by
    exact ⟨g, F, r.re (heap_set (heap_set (w := w.drewN m) r.hb 2 _) 1 _) (fun i hi => (heap_set_ne hi 1 _).trans (heap_set_ne hi 2 _)) rfl rfl (by omega) (by show (-1 : Int) ≤ -1; omega) (by show (-1 : Int) ≤ _; omega) r.w0 (by have := r.w1; exact this), o1, o2, o3⟩⟩
  clear r o1 o2 o3
  go_enter Try.func24, Try.ntmps24
  go_wp2
  go_end0
  exact ⟨rfl, HX.out 0, fr2 0 2 1 _ _⟩
set_option maxHeartbeats 16000000 in
set_option maxRecDepth 100000 in
theorem writes_calls {w : World} {own : Nat → Prop} {b : Nat} {M : Med} {n : Nat} (h : IsMed w own b M n) :
    Calls Try.prog 14 #[.pointer (some ⟨b, 0, none⟩)] w fun e w' => e = .returned (.int .i64 M.writes) ∧ w' = w := by
  obtain ⟨g, F, r, o1, o2, o3⟩ := h
  have hu := Try.underlying67
  have c3 : w.cell? ⟨b, 3, none⟩ = some (.int .i64 M.writes) := by have := r.hb; simp [World.cell?, this]
  clear r o1 o2 o3
  go_enter Try.func14, Try.ntmps14
  go_wp2
  go_ret
  exact ⟨rfl, rfl⟩
end Go.Proofs.Ytdjcaogffppdhaa.Med
