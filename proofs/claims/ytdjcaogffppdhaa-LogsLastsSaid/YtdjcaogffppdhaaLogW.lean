/- The program's log: Open of a media with power. -/
import Derived.Test.YtdjcaogffppdhaaLogM1
set_option linter.unusedVariables false
set_option linter.unusedSimpArgs false
namespace Go.Proofs.Ytdjcaogffppdhaa.Log
open Go.RowKit Go.ChangeMaps Go.Proofs.Ytdjcaogffppdhaa.IMap Go.Proofs.Ytdjcaogffppdhaa.AtX Go.Proofs.Ytdjcaogffppdhaa.App Go.Proofs.Ytdjcaogffppdhaa.SumPure Go.Proofs.Ytdjcaogffppdhaa.Lst
open Go.Proofs.Ytdjcaogffppdhaa.Med (IsMed Med Ranged IsSize IsFiles Filed)
open Go.Proofs.Ytdjcaogffppdhaa.FramesPure
open Go.Proofs.YtdjcaogffppdhaaW.PrintWords Go.Proofs.YtdjcaogffppdhaaW.PrintLast Go.Proofs.YtdjcaogffppdhaaW.PrintMore
attribute [local go_sem ↓] Go.wp_at_zero Go.wp_at_succ
attribute [local go_sem] Go.undef
/-- What Open has made ahead of its frames' row. -/
structure St0 (B bm Bm Bl Lb g : Nat) (L : Lg) (w : World) : Prop where
  cm : w.heap[Bm]? = some (.cells #[.pointer (some ⟨bm, 0, none⟩)] 22 (0, 0))
  cl : w.heap[Bl]? = some (.cells #[.pointer (some ⟨Lb, 0, none⟩)] 49 (0, 0))
  cL : w.heap[Lb]? = some (.cells #[.pointer (some ⟨bm, 0, none⟩), .int .i64 L.file, .int .i64 L.at', .int .i64 L.next, .map (some g)] 84 (0, 0))
  cg : IMap w Try.prog 3 RI g 0 (FI L.lasts)
  l1 : B ≤ Bm
  l2 : B ≤ Bl
  l3 : B ≤ Lb
  l4 : B ≤ g
section
variable {B bm Bm Bl Lb g : Nat} {L : Lg} {w : World}
theorem St0.after (h : St0 B bm Bm Bl Lb g L w) {w' : World} (k : Below w.heap.size w w') : St0 B bm Bm Bl Lb g L w' := by
  have lt : ∀ {b : Nat} {o : Obj}, w.heap[b]? = some o → w'.heap[b]? = some o := fun hb => (k.block _ (Array.getElem?_eq_some_iff.1 hb).1).trans hb
  exact ⟨lt h.cm, lt h.cl, lt h.cL, h.cg.same (k.block g h.cg.lt), h.l1, h.l2, h.l3, h.l4⟩
theorem St0.file (h : St0 B bm Bm Bl Lb g L w) (f : Int) : St0 B bm Bm Bl Lb g { L with file := f } (w.setCell ⟨Lb, 1, none⟩ (.int .i64 f)) := by
  have k : ∀ {b : Nat}, b ≠ Lb → (w.setCell ⟨Lb, 1, none⟩ (.int .i64 f)).heap[b]? = w.heap[b]? := fun hb => Med.heap_set_ne hb 1 _
  exact ⟨(k (ne_type h.cm h.cL (by decide))).trans h.cm, (k (ne_type h.cl h.cL (by decide))).trans h.cl, by rw [Med.heap_set h.cL 1 _]; rfl, h.cg.same (k (fun e => ne_map h.cL h.cg e.symm)), h.l1, h.l2, h.l3, h.l4⟩
theorem St0.open_ (h : St0 B bm Bm Bl Lb g L w) (hB : B ≤ w.heap.size) : St B bm Bm w.heap.size Bl Lb g L [] 0 (w.alloc (.cells #[.slice none 0 0] 50 (0, 0))) := by
  have h' := h.after ((Below.refl _ w).alloc (Nat.le_refl _) (.cells #[.slice none 0 0] 50 (0, 0)))
  exact ⟨h'.cm, h'.cl, h'.cL, h'.cg, ⟨_, heap_alloc_new w _, World.ownsRow_nil _ _ _ _⟩, h.l1, h.l2, h.l3, h.l4, hB⟩
end
/-- How far the reading has come. -/
def meas (Lb : Nat) (w : World) : Nat := match w.cell? ⟨Lb, 1, none⟩, w.cell? ⟨Lb, 2, none⟩ with
  | some (.int _ f), some (.int _ a) => ((1048600 - f) * 20 + (16 - a)).toNat
  | _, _ => 0
theorem St.meas {B bm Bm Bo Bl Lb g n : Nat} {L : Lg} {out : List Fr} {w : World} (h : St B bm Bm Bo Bl Lb g L out n w) : meas Lb w = ((1048600 - L.file) * 20 + (16 - L.at')).toNat := by
  unfold Log.meas
  rw [h.cells.2.2.1, h.cells.2.2.2.1]
theorem St.lat {w0 w w' : World} {X : Nat → Prop} {bm Bm Bo Bl Lb g n nM N : Nat} {M : Med} {L : Lg} {out : List Fr} (h : St w.heap.size bm Bm Bo Bl Lb g L out n w') (hA : AtX w0 X bm M nM w) (hb : Below w.heap.size w w') {v : Value}
    (hv : ∀ i, v.ownBlock = some i → w.heap.size ≤ i ∧ i < w'.heap.size ∧ i ≠ Lb ∧ i ≠ g) (h1 : nM ≤ N) (h2 : n ≤ N) : LAt w0 (fun i => X i ∨ v.ownBlock = some i) bm Lb g M L N w' := by
  have hLb := (Array.getElem?_eq_some_iff.1 h.cL).1
  have hg := h.cg.lt
  have hs := hA.below.size
  refine ⟨(hA.more hb _ fun i hi => ?_).mono h1, h.cL, h.cg.mono h2, by have := h.l3; omega, by have := h.l4; omega, ?_, ?_⟩
  · rcases hi with (hi | hi) | hi | hi
    · exact ⟨.inl hi, Nat.lt_of_lt_of_le (hA.lt i hi) hb.size⟩
    · exact ⟨.inr (hv i hi).1, (hv i hi).2.1⟩
    · rw [hi]; exact ⟨.inr h.l3, hLb⟩
    · rw [hi]; exact ⟨.inr h.l4, hg⟩
  · rintro (hx | hx)
    · have := hA.lt _ hx; have := h.l3; omega
    · exact (hv _ hx).2.2.1 rfl
  · rintro (hx | hx)
    · have := hA.lt _ hx; have := h.l4; omega
    · exact (hv _ hx).2.2.2 rfl
/-- What the reading leaves, at its end. -/
theorem open_end {w0 w w' : World} {X : Nat → Prop} {bm Bm Bo Bl Lb g n nM N : Nat} {M : Med} {L : Lg} {out : List Fr} {B : Nat} (hB : B = w.heap.size) (h : St B bm Bm Bo Bl Lb g L out n w') (hA : AtX w0 X bm M nM w) (hb : Below B w w') (h1 : nM ≤ N) (h2 : n ≤ N) :
    ∃ A c, w'.cell? ⟨Bo, 0, none⟩ = some (.slice A out.length c) ∧ w'.cell? ⟨Bl, 0, none⟩ = some (.pointer (some ⟨Lb, 0, none⟩)) ∧ LAt w0 (fun i => X i ∨ (Value.slice A out.length c).ownBlock = some i) bm Lb g M L N w' ∧ w'.ownsRow B 57 2 (.slice A out.length c) out.length (fcells out) ∧ Same X w w' := by
  subst hB
  obtain ⟨v, hv, hrow⟩ := h.co
  have hs : ∃ A c, v = .slice A out.length c := by
    rcases hrow.2 with ⟨rfl, h0⟩ | ⟨g', cap, cur, rfl, _⟩
    · exact ⟨none, 0, by rw [h0]⟩
    · exact ⟨_, _, rfl⟩
  obtain ⟨A, c, rfl⟩ := hs
  refine ⟨A, c, by simp [World.cell?, hv], h.cells.2.1, h.lat hA hb (fun i hi => ?_) h1 h2, hrow, Same.below hA.lt hb⟩
  have hh := hrow.lt i hi
  exact ⟨hh.1, hh.2, fun e => ne_row hrow h.cL (by decide) (by rw [← e]; exact hi), fun e => ne_rowmap hrow h.cg (by rw [← e]; exact hi)⟩
set_option maxHeartbeats 16000000 in
set_option maxRecDepth 100000 in
theorem open_calls {w0 w : World} {X : Nat → Prop} {bm n : Nat} {M : Med} (h : AtX w0 X bm M n w) (hfd : Filed M) (hoff : M.off = false) (hn : n ≤ 1000000000000) {l : List Int} (hl : IsFiles M l) :
    Calls Try.prog 31 #[.pointer (some ⟨bm, 0, none⟩)] w fun e w' => ∃ bl g v S, e = .returned (.tuple #[.pointer (some ⟨bl, 0, none⟩), v, .int .i64 0]) ∧ Runs M (startP l) S ∧ LAt w0 (fun i => X i ∨ v.ownBlock = some i) bm bl g M S.1 (n + 50000000) w' ∧ w'.ownsRow w.heap.size 57 2 v S.2.length (fcells S.2) ∧ Same X w w' := by
  obtain ⟨own, hm, ho⟩ := h.med
  have HA := Aside0.mk h
  have HM := Aside0.mk hm
  have HL := Aside0.mk (And.intro hfd hl)
  have hKm : ∀ f ∈ segsOf l, 2 ≤ f ∧ f < 1048576 := fun f hf => ⟨by have := (List.mem_filter.1 hf).2; simpa using this, (hfd f ((hl.mem f).1 (List.mem_filter.1 hf).1)).2⟩
  have HKM := Aside0.mk hKm
  have hu := Try.underlying84
  have hrd := Med.read_calls (hm.below ((Below.refl _ w).alloc (Nat.le_refl _) (.cells #[.pointer (some ⟨bm, 0, none⟩)] 22 (0, 0)))) 0 0
  obtain ⟨s, e, hse, he⟩ : ∃ s e, M.read 0 0 = (s, e) ∧ (e == 40) = false := by
    have e1 : M.ready 0 0 64 = 0 := by unfold Med.Med.ready; rw [hoff]; rfl
    unfold Med.Med.read
    rw [e1, if_pos rfl]
    cases M.S 0 0 with
    | none => exact ⟨_, _, rfl, rfl⟩
    | some s => exact ⟨_, _, rfl, rfl⟩
  rw [hse] at hrd
  have HB := Aside0.mk ((Below.refl _ w).alloc (Nat.le_refl _) (.cells #[.pointer (some ⟨bm, 0, none⟩)] 22 (0, 0)))
  have HN := heap_alloc_new w (.cells #[.pointer (some ⟨bm, 0, none⟩)] 22 (0, 0))
  have HNm := Aside0.mk HN
  have hBm : (w.alloc (.cells #[.pointer (some ⟨bm, 0, none⟩)] 22 (0, 0))).cell? ⟨w.heap.size, 0, none⟩ = some (.pointer (some ⟨bm, 0, none⟩)) := (cell_of_row _ w.heap.size 0 _ _ (0, 0) HN).trans rfl
  clear hse hoff hm ho hfd hl hKm HN h
  go_enter Try.func31, Try.ntmps31
  go_wp2_with (fail)
  refine hrd.mono ?_
  rintro e' w1 ⟨rfl, m, hm1⟩
  have HB1 := Aside0.mk (drawn_below HB.out m)
  have HN1 : Aside0 (w1.heap[w.heap.size]? = some (.cells #[.pointer (some ⟨bm, 0, none⟩)] 22 (0, 0))) := ⟨by rw [hm1]; exact HNm.out⟩
  have hcm : w1.cell? ⟨w.heap.size, 0, none⟩ = some (.pointer (some ⟨bm, 0, none⟩)) := by have := HN1.out; simp [World.cell?, this]
  rw [← hm1] at HB1
  have hmk := run_makeMap (P := Try.prog) 82 w1
  clear hm1 HB hrd HNm hBm
  go_upto_region 7 with (fail)
  go_name_world w3 h3
  have HS3 : Aside0 (St0 w.heap.size bm w.heap.size (w1.heap.size + 1 + 1) (w1.heap.size + 1) w1.heap.size ⟨2, 0, 1, fun _ => none⟩ w3 ∧ Below w.heap.size w w3) := ⟨by
    have hs1 := HB1.out.size
    have k1 : (w1.alloc (.map #[] 0)).heap.size = w1.heap.size + 1 := by simp
    have k2 : ∀ o, ((w1.alloc (.map #[] 0)).alloc o).heap.size = w1.heap.size + 1 + 1 := fun o => by simp
    have hlt := (Array.getElem?_eq_some_iff.1 HN1.out).1
    rw [← h3]
    refine ⟨⟨?_, ?_, ?_, ?_, Nat.le_refl _, by omega, by omega, by omega⟩, ((HB1.out.alloc hs1 _).alloc (by omega) _).alloc (by rw [k2]; omega) _⟩
    · rw [Below.heap_alloc _ _ _ (by rw [k2]; omega), Below.heap_alloc _ _ _ (by omega), Below.heap_alloc _ _ _ hlt]
      exact HN1.out
    · have := heap_alloc_new ((w1.alloc (.map #[] 0)).alloc (.cells #[.pointer (some ⟨bm, 0, none⟩), .int .i64 2, .int .i64 0, .int .i64 1, .map (some w1.heap.size)] 84)) (.cells #[.pointer (some ⟨w1.heap.size + 1, 0, none⟩)] 49 (0, 0))
      rw [k2] at this
      exact this
    · rw [Below.heap_alloc _ _ _ (by rw [k2]; omega)]
      have := heap_alloc_new (w1.alloc (.map #[] 0)) (.cells #[.pointer (some ⟨bm, 0, none⟩), .int .i64 2, .int .i64 0, .int .i64 1, .map (some w1.heap.size)] 84 (0, 0))
      rw [k1] at this
      exact this
    · have h0 := IMap.made w1 Try.prog 3 RI
      exact (h0.same (by rw [Below.heap_alloc _ _ _ (by rw [k2]; omega), Below.heap_alloc _ _ _ (by omega)]))⟩
  clear h3 hmk hcm HN1 HB1
  generalize w1.heap.size + 1 + 1 = Bl at *
  generalize w1.heap.size + 1 = Lb at *
  generalize w1.heap.size = g at *
  have hsg := seg_calls (HM.out.below HS3.out.2) HL.out.1 (by omega)
  have hcm : w3.cell? ⟨w.heap.size, 0, none⟩ = some (.pointer (some ⟨bm, 0, none⟩)) := by have := HS3.out.1.cm; simp [World.cell?, this]
  go_wp2_with (fail)
  refine hsg.mono ?_
  rintro e2 w4 ⟨v, l', rfl, hl', hr, hb4⟩
  obtain rfl := hl'.same HL.out.2
  have HS4 : Aside0 (St0 w.heap.size bm w.heap.size Bl Lb g ⟨2, 0, 1, fun _ => none⟩ w4 ∧ Below w.heap.size w w4) := ⟨HS3.out.1.after hb4, HS3.out.2.trans (hb4.mono HS3.out.2.size)⟩
  have HNR := Aside0.mk (ne_row hr HS4.out.1.cL (by decide))
  have hV := Lst.of_row hr
  obtain ⟨Av, cv, rfl⟩ := Lst.shape hV
  have HV := Aside0.mk hV
  have hKM := HKM.out
  clear hsg hr hl' hb4 hcm HS3 hV
  obtain ⟨S0, hS0⟩ : ∃ S0, S0 = startP l' := ⟨_, rfl⟩
  have HS0 := Aside0.mk hS0
  have HG : Aside0 (2 ≤ S0.1.file ∧ S0.1.file ≤ 1048577 ∧ S0.1.at' = 0 ∧ S0.2 = []) := ⟨by
    rw [hS0]; unfold startP
    cases hK : segsOf l' with
    | nil => exact ⟨by decide, by decide, rfl, rfl⟩
    | cons x K => have := hKM x (by rw [hK]; exact List.mem_cons_self); exact ⟨this.1, by show x ≤ _; omega, rfl, rfl⟩⟩
  unfold startP at hS0
  rcases hK : segsOf l' with _ | ⟨x, K⟩
  all_goals
    rw [hK] at hS0 HV hKM
  · have hS0' := Aside0.mk hS0
    clear hS0 hK hKM HV
    simp only [List.length_nil]
    go_upto_region 10 with (fail)
    go_name_world w5 h5
    have HS5 : Aside0 (St0 w.heap.size bm w.heap.size Bl Lb g S0.1 w5 ∧ Below w.heap.size w w5) := ⟨by rw [hS0'.out, ← h5]; exact HS4.out⟩
    clear h5 HS4
    have hs5 := HS5.out.2.size
    have HT : Aside0 (St w.heap.size bm w.heap.size w5.heap.size Bl Lb g S0.1 [] 0 (w5.alloc (.cells #[.slice none 0 0] 50 (0, 0))) ∧ Below w.heap.size w (w5.alloc (.cells #[.slice none 0 0] 50 (0, 0)))) := ⟨HS5.out.1.open_ hs5, HS5.out.2.alloc hs5 _⟩
    go_wp2_with (fail)
    generalize w5.alloc (.cells #[.slice none 0 0] 50 (0, 0)) = w6 at *
    generalize w5.heap.size = Bo at *
    clear hs5 HS5
    go_loopw [] (fun wr => ∃ (L : Lg) (out : List Fr) (n' : Nat), Aside0 (St w.heap.size bm w.heap.size Bo Bl Lb g L out n' wr ∧ Below w.heap.size w wr) ∧ Aside0 (∀ S', Runs M (L, out) S' → Runs M S0 S') ∧ 0 ≤ L.file ∧ L.file ≤ 1048577 ∧ 0 ≤ L.at' ∧ L.at' ≤ 16 ∧ (out.length : Int) ≤ 16 * L.file + L.at' ∧ n' ≤ 2 * out.length) (fun wr => meas Lb wr)
    case atStart => exact ⟨S0.1, [], 0, ⟨HT.out⟩, ⟨fun S' h => by have e : S0 = (S0.1, []) := Prod.ext rfl HG.out.2.2.2; rw [e]; exact h⟩, by have := HG.out; omega, by have := HG.out; omega, by have := HG.out; omega, by have := HG.out; omega, by have := HG.out; simp; omega, by simp⟩
    case round =>
      obtain ⟨L, out, n', HW, HRn, f0, f1, a0, a1, o1, n1⟩ := hrel
      clear HT
      have hol : out.length ≤ 1000000000 := by omega
      have hn1 : n' ≤ 1000000000 := by omega
      obtain ⟨q1, q2, q3, q4, q5, q6, qf, qo⟩ := HW.out.1.cells
      rcases h1 : foundP M (L, out) L.file L.at' with _ | S1
      · have c1 : ∀ W, St w.heap.size bm w.heap.size Bo Bl Lb g L out n' W → Below w.heap.size w W → Calls Try.prog 46 #[.int .i64 L.file, .int .i64 L.at', .pointer (some ⟨w.heap.size, 0, none⟩), .pointer (some ⟨Bo, 0, none⟩), .pointer (some ⟨Bl, 0, none⟩)] W fun e w' => e = .returned (.bool false) ∧ St w.heap.size bm w.heap.size Bo Bl Lb g L out (n' + 1) w' ∧ Below w.heap.size w w' := fun W hS hB => by
          have := found_calls HM.out hB hS L.file L.at' f0 (by omega) a0 a1 hn1 hol
          rw [h1] at this
          exact this
        have HC1 := Aside0.mk c1
        clear c1
        by_cases hat : L.at' > 0
        · have hw1 : IntKind.i64.wrap (L.file + 1) = L.file + 1 := by rw [IntKind.wrap_i64]; omega
          rcases h2 : foundP M (L, out) (L.file + 1) 0 with _ | S1
          · have c2 : ∀ W, St w.heap.size bm w.heap.size Bo Bl Lb g L out (n' + 1) W → Below w.heap.size w W → Calls Try.prog 46 #[.int .i64 (L.file + 1), .int .i64 0, .pointer (some ⟨w.heap.size, 0, none⟩), .pointer (some ⟨Bo, 0, none⟩), .pointer (some ⟨Bl, 0, none⟩)] W fun e w' => e = .returned (.bool false) ∧ St w.heap.size bm w.heap.size Bo Bl Lb g L out (n' + 1 + 1) w' ∧ Below w.heap.size w w' := fun W hS hB => by
              have := found_calls HM.out hB hS (L.file + 1) 0 (by omega) (by omega) (by omega) (by omega) (by omega) hol
              rw [h2] at this
              exact this
            have HC2 := Aside0.mk c2
            have HX : Aside0 (Runs M S0 (L, out)) := ⟨HRn.out _ (.stop (by unfold stepP; rw [h1]; simp only []; rw [if_pos hat, h2]))⟩
            clear c2 h1 h2
            go_upto_region 12 with (fail)
            first
              | (go_region_held3 (fun w' => w'.cell? ⟨Bl, 0, none⟩ = some (.pointer (some ⟨Lb, 0, none⟩)) ∧ w'.cell? ⟨Lb, 1, none⟩ = some (.int .i64 L.file) ∧ w'.cell? ⟨Lb, 2, none⟩ = some (.int .i64 L.at')) (first | (go_split_ands; assumption) | (refine ⟨?_, ?_, ?_⟩ <;> assumption) | go_keep) (first
                | (go_at_call 46; have _t := HA1; refine (HC2.out _ HA1.out.1 HA1.out.2).mono ?_; rintro e wB ⟨rfl, k1, k2⟩; have HA2 := Aside0.mk (And.intro k1 k2); obtain ⟨t1, t2, t3, t4, t5, t6, tf, to_⟩ := k1.cells; clear k1 k2)
                | (go_at_call 46; refine (HC1.out _ HW.out.1.drew (drew_below HW.out.2)).mono ?_; rintro e wA ⟨rfl, k1, k2⟩; have HA1 := Aside0.mk (And.intro k1 k2); obtain ⟨r1, r2, r3, r4, r5, r6, rf, ro⟩ := k1.cells; clear k1 k2)))
              | fail "held3 failed"
            all_goals
              obtain ⟨Ae, ce, z1, z2, hend⟩ := open_end (N := n + 50000000) rfl HA2.out.1 HA.out HA2.out.2 (by omega) (by omega)
              go_upto_region 13 with (fail)
              go_quiet (fail)
              go_wp2
              go_ret3
              first | (exact ⟨Lb, g, .slice Ae out.length ce, (L, out), rfl, (by have := HX.out; rw [HS0.out] at this; exact this), hend.1.drawn _, hend.2.1, hend.2.2⟩) | (exact ⟨Lb, g, .slice Ae out.length ce, rfl, L, out, (by have := HX.out; rw [HS0.out] at this; exact this), hend.1.drawn _, hend.2.1, hend.2.2⟩)
          · have c2 : ∀ W, St w.heap.size bm w.heap.size Bo Bl Lb g L out (n' + 1) W → Below w.heap.size w W → Calls Try.prog 46 #[.int .i64 (L.file + 1), .int .i64 0, .pointer (some ⟨w.heap.size, 0, none⟩), .pointer (some ⟨Bo, 0, none⟩), .pointer (some ⟨Bl, 0, none⟩)] W fun e w' => e = .returned (.bool true) ∧ St w.heap.size bm w.heap.size Bo Bl Lb g S1.1 S1.2 (n' + 1 + 1) w' ∧ Below w.heap.size w w' := fun W hS hB => by
              have := found_calls HM.out hB hS (L.file + 1) 0 (by omega) (by omega) (by omega) (by omega) (by omega) hol
              rw [h2] at this
              exact this
            have HC2 := Aside0.mk c2
            have hst : stepP M (L, out) = some S1 := by unfold stepP; rw [h1]; simp only []; rw [if_pos hat, h2]
            have HRn2 : Aside0 (∀ S', Runs M S1 S' → Runs M S0 S') := ⟨fun S' h => HRn.out _ (.go hst h)⟩
            have HB := Aside0.mk (step_some hst a0 a1)
            have HMS := Aside0.mk HW.out.1.meas
            clear c2 h1 h2 hst
            go_upto_region 12 with (fail)
            refine wp_region_held_drew (S := (fun w' => w'.cell? ⟨Bl, 0, none⟩ = some (.pointer (some ⟨Lb, 0, none⟩)))) (by kernel_rfl) ?_ (fun hHeld => ?_)
            · (try dsimp only); (first | assumption | (go_split_ands; assumption) | (refine ⟨?_, ?_, ?_⟩ <;> assumption) | go_keep)
            refine' wpAnyH_take (i := 0) (v := _) rfl (by kernel_rfl) (by kernel_rfl) (by kernel_rfl) (fun _ _ _ h => h) ?hy1 (by assumption) ?rest1
            case hy1 => exact .inl ⟨by rfl, by intro w' hSw; (try dsimp only at hSw); go_simp; (try with_reducible rfl)⟩
            (try simp only [Act.put, List.setIfInBounds_toArray, List.set_cons_zero, List.set_cons_succ, List.getElem_toArray, List.getElem_cons_zero, List.getElem_cons_succ])
            refine' wpAnyH_take (i := 1) (v := _) rfl (by kernel_rfl) (by kernel_rfl) (by kernel_rfl) (fun _ _ _ h => h) ?hy2 (by assumption) ?rest2
            case hy2 => exact .inl ⟨by rfl, by intro w' hSw; (try dsimp only at hSw); go_simp; (try with_reducible rfl)⟩
            (try simp only [Act.put, List.setIfInBounds_toArray, List.set_cons_zero, List.set_cons_succ, List.getElem_toArray, List.getElem_cons_zero, List.getElem_cons_succ])
            refine' wpAnyH_take (i := 2) (v := _) rfl (by kernel_rfl) (by kernel_rfl) (by kernel_rfl) (fun _ _ _ h => h) ?hy3 (by assumption) ?rest3
            case hy3 => exact .inl ⟨by rfl, by intro w' hSw; (try dsimp only at hSw); go_simp; (try with_reducible rfl)⟩
            (try simp only [Act.put, List.setIfInBounds_toArray, List.set_cons_zero, List.set_cons_succ, List.getElem_toArray, List.getElem_cons_zero, List.getElem_cons_succ])
            refine' wpAnyH_take (i := 3) (v := _) rfl (by kernel_rfl) (by kernel_rfl) (by kernel_rfl) (fun _ _ _ h => h) ?hy4 (by assumption) ?rest4
            case hy4 => exact .inl ⟨by rfl, by intro w' hSw; (try dsimp only at hSw); go_simp; (try with_reducible rfl)⟩
            (try simp only [Act.put, List.setIfInBounds_toArray, List.set_cons_zero, List.set_cons_succ, List.getElem_toArray, List.getElem_cons_zero, List.getElem_cons_succ])
            refine' wpAnyH_take (i := 5) (v := _) rfl (by kernel_rfl) (by kernel_rfl) (by kernel_rfl) (fun _ _ _ h => h) ?hy5 (by assumption) ?rest5
            case hy5 => exact .inl ⟨by rfl, by intro w' hSw; (try dsimp only at hSw); go_simp; (try with_reducible rfl)⟩
            (try simp only [Act.put, List.setIfInBounds_toArray, List.set_cons_zero, List.set_cons_succ, List.getElem_toArray, List.getElem_cons_zero, List.getElem_cons_succ])
            refine' wpAnyH_take (i := 6) (v := _) rfl (by kernel_rfl) (by kernel_rfl) (by kernel_rfl) (fun _ _ _ h => h) ?hy6 (by assumption) ?rest6
            case hy6 => exact .inl ⟨by rfl, by intro w' hSw; (try dsimp only at hSw); go_simp; (try with_reducible rfl)⟩
            (try simp only [Act.put, List.setIfInBounds_toArray, List.set_cons_zero, List.set_cons_succ, List.getElem_toArray, List.getElem_cons_zero, List.getElem_cons_succ])
            refine' wpAnyH_take (i := 7) (v := _) rfl (by kernel_rfl) (by kernel_rfl) (by kernel_rfl) (fun _ _ _ h => h) ?hy7 (by assumption) ?rest7
            case hy7 => exact .inl ⟨by rfl, by intro w' hSw; (try dsimp only at hSw); go_simp; (try with_reducible rfl)⟩
            (try simp only [Act.put, List.setIfInBounds_toArray, List.set_cons_zero, List.set_cons_succ, List.getElem_toArray, List.getElem_cons_zero, List.getElem_cons_succ])
            refine wpAnyH_ready (rs := [4, 8]) (by kernel_rfl) (by simp) ?_
            refine AllReadyH.cons rfl (fun K hK => ?_) (AllReadyH.cons rfl (fun K hK => ?_) AllReadyH.nil)
            · go_simp
              refine hK.out _ _ ?_ (fun hHeld => ?_)
              · (try dsimp only); (first | assumption | (go_split_ands; assumption) | (refine ⟨?_, ?_, ?_⟩ <;> assumption) | go_keep)
              clear hK K
              (try simp only [Act.put, List.setIfInBounds_toArray, List.set_cons_zero, List.set_cons_succ, List.getElem_toArray, List.getElem_cons_zero, List.getElem_cons_succ])
              refine wpAnyH_ready (rs := [8]) (by kernel_rfl) (by simp) ?_
              refine AllReadyH.cons rfl (fun K hK => ?_) AllReadyH.nil
              go_simp
              refine hK.out _ _ ?_ (fun hHeld => ?_)
              · (try dsimp only); (first | assumption | (go_split_ands; assumption) | (refine ⟨?_, ?_, ?_⟩ <;> assumption) | go_keep)
              clear hK K
              (try simp only [Act.put, List.setIfInBounds_toArray, List.set_cons_zero, List.set_cons_succ, List.getElem_toArray, List.getElem_cons_zero, List.getElem_cons_succ])
              refine wpAnyH_ready (rs := [9]) (by kernel_rfl) (by simp) ?_
              refine AllReadyH.cons rfl (fun K hK => ?_) AllReadyH.nil
              go_simp
              go_at_call 46; refine (HC1.out _ HW.out.1.drew (drew_below HW.out.2)).mono ?_; rintro e wA ⟨rfl, k1, k2⟩; have HA1 := Aside0.mk (And.intro k1 k2); obtain ⟨r1, r2, r3, r4, r5, r6, rf, ro⟩ := k1.cells; clear k1 k2
              refine hK.out _ _ ?_ (fun hHeld => ?_)
              · (try dsimp only); (first | assumption | (go_split_ands; assumption) | (refine ⟨?_, ?_, ?_⟩ <;> assumption) | go_keep)
              clear hK K
              (try simp only [Act.put, List.setIfInBounds_toArray, List.set_cons_zero, List.set_cons_succ, List.getElem_toArray, List.getElem_cons_zero, List.getElem_cons_succ])
              refine' wpAnyH_take (i := 10) (v := _) rfl (by kernel_rfl) (by kernel_rfl) (by kernel_rfl) (fun _ _ _ h => h) ?hy8 (by assumption) ?rest8
              case hy8 => exact .inl ⟨by rfl, by intro w' hSw; (try dsimp only at hSw); go_simp; (try with_reducible rfl)⟩
              (try simp only [Act.put, List.setIfInBounds_toArray, List.set_cons_zero, List.set_cons_succ, List.getElem_toArray, List.getElem_cons_zero, List.getElem_cons_succ])
              refine' wpAnyH_take (i := 11) (v := _) rfl (by kernel_rfl) (by kernel_rfl) (by kernel_rfl) (fun _ _ _ h => h) ?hy9 (by assumption) ?rest9
              case hy9 => exact .inl ⟨by rfl, by intro w' hSw; (try dsimp only at hSw); go_simp; (try with_reducible rfl)⟩
              (try simp only [Act.put, List.setIfInBounds_toArray, List.set_cons_zero, List.set_cons_succ, List.getElem_toArray, List.getElem_cons_zero, List.getElem_cons_succ])
              refine' wpAnyH_take (i := 12) (v := _) rfl (by kernel_rfl) (by kernel_rfl) (by kernel_rfl) (fun _ _ _ h => h) ?hy10 (by assumption) ?rest10
              case hy10 => exact .inl ⟨by rfl, by intro w' hSw; (try dsimp only at hSw); go_simp; (try with_reducible rfl)⟩
              (try simp only [Act.put, List.setIfInBounds_toArray, List.set_cons_zero, List.set_cons_succ, List.getElem_toArray, List.getElem_cons_zero, List.getElem_cons_succ])
              refine' wpAnyH_take (i := 13) (v := _) rfl (by kernel_rfl) (by kernel_rfl) (by kernel_rfl) (fun _ _ _ h => h) ?hy11 (by assumption) ?rest11
              case hy11 => exact .inl ⟨by rfl, by intro w' hSw; (try dsimp only at hSw); go_simp; (try with_reducible rfl)⟩
              (try simp only [Act.put, List.setIfInBounds_toArray, List.set_cons_zero, List.set_cons_succ, List.getElem_toArray, List.getElem_cons_zero, List.getElem_cons_succ])
              refine wpAnyH_ready (rs := [14]) (by kernel_rfl) (by simp) ?_
              refine AllReadyH.cons rfl (fun K hK => ?_) AllReadyH.nil
              go_simp
              refine hK.out _ _ ?_ (fun hHeld => ?_)
              · (try dsimp only); (first | assumption | (go_split_ands; assumption) | (refine ⟨?_, ?_, ?_⟩ <;> assumption) | go_keep)
              clear hK K
              (try simp only [Act.put, List.setIfInBounds_toArray, List.set_cons_zero, List.set_cons_succ, List.getElem_toArray, List.getElem_cons_zero, List.getElem_cons_succ])
              refine' wpAnyH_take (i := 15) (v := _) rfl (by kernel_rfl) (by kernel_rfl) (by kernel_rfl) (fun _ _ _ h => h) ?hy12 (by assumption) ?rest12
              case hy12 => exact .inl ⟨by rfl, by intro w' hSw; (try dsimp only at hSw); go_simp; (try with_reducible rfl)⟩
              (try simp only [Act.put, List.setIfInBounds_toArray, List.set_cons_zero, List.set_cons_succ, List.getElem_toArray, List.getElem_cons_zero, List.getElem_cons_succ])
              refine' wpAnyH_take (i := 16) (v := _) rfl (by kernel_rfl) (by kernel_rfl) (by kernel_rfl) (fun _ _ _ h => h) ?hy13 (by assumption) ?rest13
              case hy13 => exact .inl ⟨by rfl, by intro w' hSw; (try dsimp only at hSw); go_simp; (try with_reducible rfl)⟩
              (try simp only [Act.put, List.setIfInBounds_toArray, List.set_cons_zero, List.set_cons_succ, List.getElem_toArray, List.getElem_cons_zero, List.getElem_cons_succ])
              refine' wpAnyH_take (i := 17) (v := _) rfl (by kernel_rfl) (by kernel_rfl) (by kernel_rfl) (fun _ _ _ h => h) ?hy14 (by assumption) ?rest14
              case hy14 => exact .inl ⟨by rfl, by intro w' hSw; (try dsimp only at hSw); go_simp; (try with_reducible rfl)⟩
              (try simp only [Act.put, List.setIfInBounds_toArray, List.set_cons_zero, List.set_cons_succ, List.getElem_toArray, List.getElem_cons_zero, List.getElem_cons_succ])
              refine' wpAnyH_take (i := 18) (v := _) rfl (by kernel_rfl) (by kernel_rfl) (by kernel_rfl) (fun _ _ _ h => h) ?hy15 (by assumption) ?rest15
              case hy15 => exact .inl ⟨by rfl, by intro w' hSw; (try dsimp only at hSw); go_simp; (try with_reducible rfl)⟩
              (try simp only [Act.put, List.setIfInBounds_toArray, List.set_cons_zero, List.set_cons_succ, List.getElem_toArray, List.getElem_cons_zero, List.getElem_cons_succ])
              refine' wpAnyH_take (i := 19) (v := _) rfl (by kernel_rfl) (by kernel_rfl) (by kernel_rfl) (fun _ _ _ h => h) ?hy16 (by assumption) ?rest16
              case hy16 => exact .inl ⟨by rfl, by intro w' hSw; (try dsimp only at hSw); go_simp; (try with_reducible rfl)⟩
              (try simp only [Act.put, List.setIfInBounds_toArray, List.set_cons_zero, List.set_cons_succ, List.getElem_toArray, List.getElem_cons_zero, List.getElem_cons_succ])
              refine' wpAnyH_take (i := 20) (v := _) rfl (by kernel_rfl) (by kernel_rfl) (by kernel_rfl) (fun _ _ _ h => h) ?hy17 (by assumption) ?rest17
              case hy17 => exact .inl ⟨by rfl, by intro w' hSw; (try dsimp only at hSw); go_simp; (try with_reducible rfl)⟩
              (try simp only [Act.put, List.setIfInBounds_toArray, List.set_cons_zero, List.set_cons_succ, List.getElem_toArray, List.getElem_cons_zero, List.getElem_cons_succ])
              refine wpAnyH_ready (rs := [21]) (by kernel_rfl) (by simp) ?_
              refine AllReadyH.cons rfl (fun K hK => ?_) AllReadyH.nil
              go_simp
              refine hK.out _ _ ?_ (fun hHeld => ?_)
              · (try dsimp only); (first | assumption | (go_split_ands; assumption) | (refine ⟨?_, ?_, ?_⟩ <;> assumption) | go_keep)
              clear hK K
              (try simp only [Act.put, List.setIfInBounds_toArray, List.set_cons_zero, List.set_cons_succ, List.getElem_toArray, List.getElem_cons_zero, List.getElem_cons_succ])
              refine' wpAnyH_take (i := 22) (v := _) rfl (by kernel_rfl) (by kernel_rfl) (by kernel_rfl) (fun _ _ _ h => h) ?hy18 (by assumption) ?rest18
              case hy18 => exact .inl ⟨by rfl, by intro w' hSw; (try dsimp only at hSw); go_simp; (try with_reducible rfl)⟩
              (try simp only [Act.put, List.setIfInBounds_toArray, List.set_cons_zero, List.set_cons_succ, List.getElem_toArray, List.getElem_cons_zero, List.getElem_cons_succ])
              refine wpAnyH_ready (rs := [23]) (by kernel_rfl) (by simp) ?_
              refine AllReadyH.cons rfl (fun K hK => ?_) AllReadyH.nil
              go_simp
              go_at_call 46; have _t := HA1; refine (HC2.out _ HA1.out.1 HA1.out.2).mono ?_; rintro e wB ⟨rfl, k1, k2⟩; have HA2 := Aside0.mk (And.intro k1 k2); obtain ⟨t1, t2, t3, t4, t5, t6, tf, to_⟩ := k1.cells; clear k1 k2
              refine hK.out _ _ ?_ (fun hHeld => ?_)
              · (try dsimp only); (first | assumption | (go_split_ands; assumption) | (refine ⟨?_, ?_, ?_⟩ <;> assumption) | go_keep)
              clear hK K
              (try simp only [Act.put, List.setIfInBounds_toArray, List.set_cons_zero, List.set_cons_succ, List.getElem_toArray, List.getElem_cons_zero, List.getElem_cons_succ])
              refine' wpAnyH_take (i := 24) (v := _) rfl (by kernel_rfl) (by kernel_rfl) (by kernel_rfl) (fun _ _ _ h => h) ?hy19 (by assumption) ?rest19
              case hy19 => exact .inl ⟨by rfl, by intro w' hSw; (try dsimp only at hSw); go_simp; (try with_reducible rfl)⟩
              (try simp only [Act.put, List.setIfInBounds_toArray, List.set_cons_zero, List.set_cons_succ, List.getElem_toArray, List.getElem_cons_zero, List.getElem_cons_succ])
              refine' wpAnyH_take (i := 25) (v := _) rfl (by kernel_rfl) (by kernel_rfl) (by kernel_rfl) (fun _ _ _ h => h) ?hy20 (by assumption) ?rest20
              case hy20 => exact .inl ⟨by rfl, by intro w' hSw; (try dsimp only at hSw); go_simp; (try with_reducible rfl)⟩
              (try simp only [Act.put, List.setIfInBounds_toArray, List.set_cons_zero, List.set_cons_succ, List.getElem_toArray, List.getElem_cons_zero, List.getElem_cons_succ])
              refine wpAnyH_done (by kernel_rfl) ?_ _
              go_wp2
              go_roundw
              case rel => exact ⟨S1.1, S1.2, _, ⟨HA2.out⟩, HRn2, by have := HB.out; omega, by have := HB.out; omega, by have := HB.out; omega, by have := HB.out; omega, by have := HB.out; (try simp only [] at this); omega, by have := HB.out; (try simp only [] at this); omega⟩
              case measure =>
                rw [HA2.out.1.meas, HMS.out]
                have := HB.out
                (try simp only [] at this)
                omega
            · go_simp
              refine hK.out _ _ ?_ (fun hHeld => ?_)
              · (try dsimp only); (first | assumption | (go_split_ands; assumption) | (refine ⟨?_, ?_, ?_⟩ <;> assumption) | go_keep)
              clear hK K
              (try simp only [Act.put, List.setIfInBounds_toArray, List.set_cons_zero, List.set_cons_succ, List.getElem_toArray, List.getElem_cons_zero, List.getElem_cons_succ])
              refine wpAnyH_ready (rs := [4]) (by kernel_rfl) (by simp) ?_
              refine AllReadyH.cons rfl (fun K hK => ?_) AllReadyH.nil
              go_simp
              refine hK.out _ _ ?_ (fun hHeld => ?_)
              · (try dsimp only); (first | assumption | (go_split_ands; assumption) | (refine ⟨?_, ?_, ?_⟩ <;> assumption) | go_keep)
              clear hK K
              (try simp only [Act.put, List.setIfInBounds_toArray, List.set_cons_zero, List.set_cons_succ, List.getElem_toArray, List.getElem_cons_zero, List.getElem_cons_succ])
              refine wpAnyH_ready (rs := [9]) (by kernel_rfl) (by simp) ?_
              refine AllReadyH.cons rfl (fun K hK => ?_) AllReadyH.nil
              go_simp
              go_at_call 46; refine (HC1.out _ HW.out.1.drew (drew_below HW.out.2)).mono ?_; rintro e wA ⟨rfl, k1, k2⟩; have HA1 := Aside0.mk (And.intro k1 k2); obtain ⟨r1, r2, r3, r4, r5, r6, rf, ro⟩ := k1.cells; clear k1 k2
              refine hK.out _ _ ?_ (fun hHeld => ?_)
              · (try dsimp only); (first | assumption | (go_split_ands; assumption) | (refine ⟨?_, ?_, ?_⟩ <;> assumption) | go_keep)
              clear hK K
              (try simp only [Act.put, List.setIfInBounds_toArray, List.set_cons_zero, List.set_cons_succ, List.getElem_toArray, List.getElem_cons_zero, List.getElem_cons_succ])
              refine' wpAnyH_take (i := 10) (v := _) rfl (by kernel_rfl) (by kernel_rfl) (by kernel_rfl) (fun _ _ _ h => h) ?hy21 (by assumption) ?rest21
              case hy21 => exact .inl ⟨by rfl, by intro w' hSw; (try dsimp only at hSw); go_simp; (try with_reducible rfl)⟩
              (try simp only [Act.put, List.setIfInBounds_toArray, List.set_cons_zero, List.set_cons_succ, List.getElem_toArray, List.getElem_cons_zero, List.getElem_cons_succ])
              refine' wpAnyH_take (i := 11) (v := _) rfl (by kernel_rfl) (by kernel_rfl) (by kernel_rfl) (fun _ _ _ h => h) ?hy22 (by assumption) ?rest22
              case hy22 => exact .inl ⟨by rfl, by intro w' hSw; (try dsimp only at hSw); go_simp; (try with_reducible rfl)⟩
              (try simp only [Act.put, List.setIfInBounds_toArray, List.set_cons_zero, List.set_cons_succ, List.getElem_toArray, List.getElem_cons_zero, List.getElem_cons_succ])
              refine' wpAnyH_take (i := 12) (v := _) rfl (by kernel_rfl) (by kernel_rfl) (by kernel_rfl) (fun _ _ _ h => h) ?hy23 (by assumption) ?rest23
              case hy23 => exact .inl ⟨by rfl, by intro w' hSw; (try dsimp only at hSw); go_simp; (try with_reducible rfl)⟩
              (try simp only [Act.put, List.setIfInBounds_toArray, List.set_cons_zero, List.set_cons_succ, List.getElem_toArray, List.getElem_cons_zero, List.getElem_cons_succ])
              refine' wpAnyH_take (i := 13) (v := _) rfl (by kernel_rfl) (by kernel_rfl) (by kernel_rfl) (fun _ _ _ h => h) ?hy24 (by assumption) ?rest24
              case hy24 => exact .inl ⟨by rfl, by intro w' hSw; (try dsimp only at hSw); go_simp; (try with_reducible rfl)⟩
              (try simp only [Act.put, List.setIfInBounds_toArray, List.set_cons_zero, List.set_cons_succ, List.getElem_toArray, List.getElem_cons_zero, List.getElem_cons_succ])
              refine wpAnyH_ready (rs := [14]) (by kernel_rfl) (by simp) ?_
              refine AllReadyH.cons rfl (fun K hK => ?_) AllReadyH.nil
              go_simp
              refine hK.out _ _ ?_ (fun hHeld => ?_)
              · (try dsimp only); (first | assumption | (go_split_ands; assumption) | (refine ⟨?_, ?_, ?_⟩ <;> assumption) | go_keep)
              clear hK K
              (try simp only [Act.put, List.setIfInBounds_toArray, List.set_cons_zero, List.set_cons_succ, List.getElem_toArray, List.getElem_cons_zero, List.getElem_cons_succ])
              refine' wpAnyH_take (i := 15) (v := _) rfl (by kernel_rfl) (by kernel_rfl) (by kernel_rfl) (fun _ _ _ h => h) ?hy25 (by assumption) ?rest25
              case hy25 => exact .inl ⟨by rfl, by intro w' hSw; (try dsimp only at hSw); go_simp; (try with_reducible rfl)⟩
              (try simp only [Act.put, List.setIfInBounds_toArray, List.set_cons_zero, List.set_cons_succ, List.getElem_toArray, List.getElem_cons_zero, List.getElem_cons_succ])
              refine' wpAnyH_take (i := 16) (v := _) rfl (by kernel_rfl) (by kernel_rfl) (by kernel_rfl) (fun _ _ _ h => h) ?hy26 (by assumption) ?rest26
              case hy26 => exact .inl ⟨by rfl, by intro w' hSw; (try dsimp only at hSw); go_simp; (try with_reducible rfl)⟩
              (try simp only [Act.put, List.setIfInBounds_toArray, List.set_cons_zero, List.set_cons_succ, List.getElem_toArray, List.getElem_cons_zero, List.getElem_cons_succ])
              refine' wpAnyH_take (i := 17) (v := _) rfl (by kernel_rfl) (by kernel_rfl) (by kernel_rfl) (fun _ _ _ h => h) ?hy27 (by assumption) ?rest27
              case hy27 => exact .inl ⟨by rfl, by intro w' hSw; (try dsimp only at hSw); go_simp; (try with_reducible rfl)⟩
              (try simp only [Act.put, List.setIfInBounds_toArray, List.set_cons_zero, List.set_cons_succ, List.getElem_toArray, List.getElem_cons_zero, List.getElem_cons_succ])
              refine' wpAnyH_take (i := 18) (v := _) rfl (by kernel_rfl) (by kernel_rfl) (by kernel_rfl) (fun _ _ _ h => h) ?hy28 (by assumption) ?rest28
              case hy28 => exact .inl ⟨by rfl, by intro w' hSw; (try dsimp only at hSw); go_simp; (try with_reducible rfl)⟩
              (try simp only [Act.put, List.setIfInBounds_toArray, List.set_cons_zero, List.set_cons_succ, List.getElem_toArray, List.getElem_cons_zero, List.getElem_cons_succ])
              refine' wpAnyH_take (i := 19) (v := _) rfl (by kernel_rfl) (by kernel_rfl) (by kernel_rfl) (fun _ _ _ h => h) ?hy29 (by assumption) ?rest29
              case hy29 => exact .inl ⟨by rfl, by intro w' hSw; (try dsimp only at hSw); go_simp; (try with_reducible rfl)⟩
              (try simp only [Act.put, List.setIfInBounds_toArray, List.set_cons_zero, List.set_cons_succ, List.getElem_toArray, List.getElem_cons_zero, List.getElem_cons_succ])
              refine' wpAnyH_take (i := 20) (v := _) rfl (by kernel_rfl) (by kernel_rfl) (by kernel_rfl) (fun _ _ _ h => h) ?hy30 (by assumption) ?rest30
              case hy30 => exact .inl ⟨by rfl, by intro w' hSw; (try dsimp only at hSw); go_simp; (try with_reducible rfl)⟩
              (try simp only [Act.put, List.setIfInBounds_toArray, List.set_cons_zero, List.set_cons_succ, List.getElem_toArray, List.getElem_cons_zero, List.getElem_cons_succ])
              refine wpAnyH_ready (rs := [21]) (by kernel_rfl) (by simp) ?_
              refine AllReadyH.cons rfl (fun K hK => ?_) AllReadyH.nil
              go_simp
              refine hK.out _ _ ?_ (fun hHeld => ?_)
              · (try dsimp only); (first | assumption | (go_split_ands; assumption) | (refine ⟨?_, ?_, ?_⟩ <;> assumption) | go_keep)
              clear hK K
              (try simp only [Act.put, List.setIfInBounds_toArray, List.set_cons_zero, List.set_cons_succ, List.getElem_toArray, List.getElem_cons_zero, List.getElem_cons_succ])
              refine' wpAnyH_take (i := 22) (v := _) rfl (by kernel_rfl) (by kernel_rfl) (by kernel_rfl) (fun _ _ _ h => h) ?hy31 (by assumption) ?rest31
              case hy31 => exact .inl ⟨by rfl, by intro w' hSw; (try dsimp only at hSw); go_simp; (try with_reducible rfl)⟩
              (try simp only [Act.put, List.setIfInBounds_toArray, List.set_cons_zero, List.set_cons_succ, List.getElem_toArray, List.getElem_cons_zero, List.getElem_cons_succ])
              refine wpAnyH_ready (rs := [23]) (by kernel_rfl) (by simp) ?_
              refine AllReadyH.cons rfl (fun K hK => ?_) AllReadyH.nil
              go_simp
              go_at_call 46; have _t := HA1; refine (HC2.out _ HA1.out.1 HA1.out.2).mono ?_; rintro e wB ⟨rfl, k1, k2⟩; have HA2 := Aside0.mk (And.intro k1 k2); obtain ⟨t1, t2, t3, t4, t5, t6, tf, to_⟩ := k1.cells; clear k1 k2
              refine hK.out _ _ ?_ (fun hHeld => ?_)
              · (try dsimp only); (first | assumption | (go_split_ands; assumption) | (refine ⟨?_, ?_, ?_⟩ <;> assumption) | go_keep)
              clear hK K
              (try simp only [Act.put, List.setIfInBounds_toArray, List.set_cons_zero, List.set_cons_succ, List.getElem_toArray, List.getElem_cons_zero, List.getElem_cons_succ])
              refine' wpAnyH_take (i := 24) (v := _) rfl (by kernel_rfl) (by kernel_rfl) (by kernel_rfl) (fun _ _ _ h => h) ?hy32 (by assumption) ?rest32
              case hy32 => exact .inl ⟨by rfl, by intro w' hSw; (try dsimp only at hSw); go_simp; (try with_reducible rfl)⟩
              (try simp only [Act.put, List.setIfInBounds_toArray, List.set_cons_zero, List.set_cons_succ, List.getElem_toArray, List.getElem_cons_zero, List.getElem_cons_succ])
              refine' wpAnyH_take (i := 25) (v := _) rfl (by kernel_rfl) (by kernel_rfl) (by kernel_rfl) (fun _ _ _ h => h) ?hy33 (by assumption) ?rest33
              case hy33 => exact .inl ⟨by rfl, by intro w' hSw; (try dsimp only at hSw); go_simp; (try with_reducible rfl)⟩
              (try simp only [Act.put, List.setIfInBounds_toArray, List.set_cons_zero, List.set_cons_succ, List.getElem_toArray, List.getElem_cons_zero, List.getElem_cons_succ])
              refine wpAnyH_done (by kernel_rfl) ?_ _
              go_wp2
              go_roundw
              case rel => exact ⟨S1.1, S1.2, _, ⟨HA2.out⟩, HRn2, by have := HB.out; omega, by have := HB.out; omega, by have := HB.out; omega, by have := HB.out; omega, by have := HB.out; (try simp only [] at this); omega, by have := HB.out; (try simp only [] at this); omega⟩
              case measure =>
                rw [HA2.out.1.meas, HMS.out]
                have := HB.out
                (try simp only [] at this)
                omega
        · have HX : Aside0 (Runs M S0 (L, out)) := ⟨HRn.out _ (.stop (by unfold stepP; rw [h1]; simp only []; rw [if_neg hat]))⟩
          have hat0 : L.at' = 0 := by omega
          clear h1 hat
          obtain ⟨f, a, nx, la⟩ := L
          have hat0 : a = 0 := hat0
          subst hat0
          simp only [] at q2 q3 q4 q5 q6 qf f0 f1 a0 a1 o1 HC1
          go_upto_region 12 with (fail)
          refine wp_region_held_drew (S := (fun w' => w'.cell? ⟨Bl, 0, none⟩ = some (.pointer (some ⟨Lb, 0, none⟩)) ∧ w'.cell? ⟨Lb, 1, none⟩ = some (.int .i64 f) ∧ w'.cell? ⟨Lb, 2, none⟩ = some (.int .i64 0))) (by kernel_rfl) ?_ (fun hHeld => ?_)
          · (try dsimp only); (first | assumption | (go_split_ands; assumption) | (refine ⟨?_, ?_, ?_⟩ <;> assumption) | go_keep)
          refine' wpAnyH_take (i := 0) (v := _) rfl (by kernel_rfl) (by kernel_rfl) (by kernel_rfl) (fun _ _ _ h => h) ?hy34 (by assumption) ?rest34
          case hy34 => exact .inl ⟨by rfl, by intro w' hSw; (try dsimp only at hSw); go_simp; (try with_reducible rfl)⟩
          (try simp only [Act.put, List.setIfInBounds_toArray, List.set_cons_zero, List.set_cons_succ, List.getElem_toArray, List.getElem_cons_zero, List.getElem_cons_succ])
          refine' wpAnyH_take (i := 1) (v := _) rfl (by kernel_rfl) (by kernel_rfl) (by kernel_rfl) (fun _ _ _ h => h) ?hy35 (by assumption) ?rest35
          case hy35 => exact .inl ⟨by rfl, by intro w' hSw; (try dsimp only at hSw); go_simp; (try with_reducible rfl)⟩
          (try simp only [Act.put, List.setIfInBounds_toArray, List.set_cons_zero, List.set_cons_succ, List.getElem_toArray, List.getElem_cons_zero, List.getElem_cons_succ])
          refine' wpAnyH_take (i := 2) (v := _) rfl (by kernel_rfl) (by kernel_rfl) (by kernel_rfl) (fun _ _ _ h => h) ?hy36 (by assumption) ?rest36
          case hy36 => exact .inl ⟨by rfl, by intro w' hSw; (try dsimp only at hSw); go_simp; (try with_reducible rfl)⟩
          (try simp only [Act.put, List.setIfInBounds_toArray, List.set_cons_zero, List.set_cons_succ, List.getElem_toArray, List.getElem_cons_zero, List.getElem_cons_succ])
          refine' wpAnyH_take (i := 3) (v := _) rfl (by kernel_rfl) (by kernel_rfl) (by kernel_rfl) (fun _ _ _ h => h) ?hy37 (by assumption) ?rest37
          case hy37 => exact .inl ⟨by rfl, by intro w' hSw; (try dsimp only at hSw); go_simp; (try with_reducible rfl)⟩
          (try simp only [Act.put, List.setIfInBounds_toArray, List.set_cons_zero, List.set_cons_succ, List.getElem_toArray, List.getElem_cons_zero, List.getElem_cons_succ])
          refine' wpAnyH_take (i := 4) (v := _) rfl (by kernel_rfl) (by kernel_rfl) (by kernel_rfl) (fun _ _ _ h => h) ?hy38 (by assumption) ?rest38
          case hy38 => exact .inl ⟨by rfl, by intro w' hSw; (try dsimp only at hSw); go_simp; (try with_reducible rfl)⟩
          (try simp only [Act.put, List.setIfInBounds_toArray, List.set_cons_zero, List.set_cons_succ, List.getElem_toArray, List.getElem_cons_zero, List.getElem_cons_succ])
          refine' wpAnyH_take (i := 5) (v := _) rfl (by kernel_rfl) (by kernel_rfl) (by kernel_rfl) (fun _ _ _ h => h) ?hy39 (by assumption) ?rest39
          case hy39 => exact .inl ⟨by rfl, by intro w' hSw; (try dsimp only at hSw); go_simp; (try with_reducible rfl)⟩
          (try simp only [Act.put, List.setIfInBounds_toArray, List.set_cons_zero, List.set_cons_succ, List.getElem_toArray, List.getElem_cons_zero, List.getElem_cons_succ])
          refine' wpAnyH_take (i := 6) (v := _) rfl (by kernel_rfl) (by kernel_rfl) (by kernel_rfl) (fun _ _ _ h => h) ?hy40 (by assumption) ?rest40
          case hy40 => exact .inl ⟨by rfl, by intro w' hSw; (try dsimp only at hSw); go_simp; (try with_reducible rfl)⟩
          (try simp only [Act.put, List.setIfInBounds_toArray, List.set_cons_zero, List.set_cons_succ, List.getElem_toArray, List.getElem_cons_zero, List.getElem_cons_succ])
          refine' wpAnyH_take (i := 7) (v := _) rfl (by kernel_rfl) (by kernel_rfl) (by kernel_rfl) (fun _ _ _ h => h) ?hy41 (by assumption) ?rest41
          case hy41 => exact .inl ⟨by rfl, by intro w' hSw; (try dsimp only at hSw); go_simp; (try with_reducible rfl)⟩
          (try simp only [Act.put, List.setIfInBounds_toArray, List.set_cons_zero, List.set_cons_succ, List.getElem_toArray, List.getElem_cons_zero, List.getElem_cons_succ])
          refine' wpAnyH_take (i := 8) (v := _) rfl (by kernel_rfl) (by kernel_rfl) (by kernel_rfl) (fun _ _ _ h => h) ?hy42 (by assumption) ?rest42
          case hy42 => exact .inl ⟨by rfl, by intro w' hSw; (try dsimp only at hSw); go_simp; (try with_reducible rfl)⟩
          (try simp only [Act.put, List.setIfInBounds_toArray, List.set_cons_zero, List.set_cons_succ, List.getElem_toArray, List.getElem_cons_zero, List.getElem_cons_succ])
          refine wpAnyH_ready (rs := [9]) (by kernel_rfl) (by simp) ?_
          refine AllReadyH.cons rfl (fun K hK => ?_) AllReadyH.nil
          go_simp
          go_at_call 46; refine (HC1.out _ HW.out.1.drew (drew_below HW.out.2)).mono ?_; rintro e wA ⟨rfl, k1, k2⟩; have HA1 := Aside0.mk (And.intro k1 k2); obtain ⟨r1, r2, r3, r4, r5, r6, rf, ro⟩ := k1.cells; clear k1 k2
          refine hK.out _ _ ?_ (fun hHeld => ?_)
          · (try dsimp only); (first | assumption | (go_split_ands; assumption) | (refine ⟨?_, ?_, ?_⟩ <;> assumption) | go_keep)
          clear hK K
          (try simp only [Act.put, List.setIfInBounds_toArray, List.set_cons_zero, List.set_cons_succ, List.getElem_toArray, List.getElem_cons_zero, List.getElem_cons_succ])
          refine' wpAnyH_take (i := 10) (v := _) rfl (by kernel_rfl) (by kernel_rfl) (by kernel_rfl) (fun _ _ _ h => h) ?hy43 (by assumption) ?rest43
          case hy43 => exact .inl ⟨by rfl, by intro w' hSw; (try dsimp only at hSw); go_simp; (try with_reducible rfl)⟩
          (try simp only [Act.put, List.setIfInBounds_toArray, List.set_cons_zero, List.set_cons_succ, List.getElem_toArray, List.getElem_cons_zero, List.getElem_cons_succ])
          refine' wpAnyH_take (i := 11) (v := _) rfl (by kernel_rfl) (by kernel_rfl) (by kernel_rfl) (fun _ _ _ h => h) ?hy44 (by assumption) ?rest44
          case hy44 => exact .inl ⟨by rfl, by intro w' hSw; (try dsimp only at hSw); go_simp; (try with_reducible rfl)⟩
          (try simp only [Act.put, List.setIfInBounds_toArray, List.set_cons_zero, List.set_cons_succ, List.getElem_toArray, List.getElem_cons_zero, List.getElem_cons_succ])
          refine' wpAnyH_take (i := 12) (v := _) rfl (by kernel_rfl) (by kernel_rfl) (by kernel_rfl) (fun _ _ _ h => h) ?hy45 (by assumption) ?rest45
          case hy45 => exact .inl ⟨by rfl, by intro w' hSw; (try dsimp only at hSw); go_simp; (try with_reducible rfl)⟩
          (try simp only [Act.put, List.setIfInBounds_toArray, List.set_cons_zero, List.set_cons_succ, List.getElem_toArray, List.getElem_cons_zero, List.getElem_cons_succ])
          refine' wpAnyH_take (i := 13) (v := _) rfl (by kernel_rfl) (by kernel_rfl) (by kernel_rfl) (fun _ _ _ h => h) ?hy46 (by assumption) ?rest46
          case hy46 => exact .inl ⟨by rfl, by intro w' hSw; (try dsimp only at hSw); go_simp; (try with_reducible rfl)⟩
          (try simp only [Act.put, List.setIfInBounds_toArray, List.set_cons_zero, List.set_cons_succ, List.getElem_toArray, List.getElem_cons_zero, List.getElem_cons_succ])
          refine' wpAnyH_take (i := 14) (v := _) rfl (by kernel_rfl) (by kernel_rfl) (by kernel_rfl) (fun _ _ _ h => h) ?hy47 (by assumption) ?rest47
          case hy47 => exact .inl ⟨by rfl, by intro w' hSw; (try dsimp only at hSw); go_simp; (try with_reducible rfl)⟩
          (try simp only [Act.put, List.setIfInBounds_toArray, List.set_cons_zero, List.set_cons_succ, List.getElem_toArray, List.getElem_cons_zero, List.getElem_cons_succ])
          refine' wpAnyH_take (i := 15) (v := _) rfl (by kernel_rfl) (by kernel_rfl) (by kernel_rfl) (fun _ _ _ h => h) ?hy48 (by assumption) ?rest48
          case hy48 => exact .inl ⟨by rfl, by intro w' hSw; (try dsimp only at hSw); go_simp; (try with_reducible rfl)⟩
          (try simp only [Act.put, List.setIfInBounds_toArray, List.set_cons_zero, List.set_cons_succ, List.getElem_toArray, List.getElem_cons_zero, List.getElem_cons_succ])
          refine' wpAnyH_take (i := 16) (v := _) rfl (by kernel_rfl) (by kernel_rfl) (by kernel_rfl) (fun _ _ _ h => h) ?hy49 (by assumption) ?rest49
          case hy49 => exact .inl ⟨by rfl, by intro w' hSw; (try dsimp only at hSw); go_simp; (try with_reducible rfl)⟩
          (try simp only [Act.put, List.setIfInBounds_toArray, List.set_cons_zero, List.set_cons_succ, List.getElem_toArray, List.getElem_cons_zero, List.getElem_cons_succ])
          refine' wpAnyH_take (i := 17) (v := _) rfl (by kernel_rfl) (by kernel_rfl) (by kernel_rfl) (fun _ _ _ h => h) (.inr ⟨by rfl, rfl⟩) (by assumption) ?rest50
          (try simp only [Act.put, List.setIfInBounds_toArray, List.set_cons_zero, List.set_cons_succ, List.getElem_toArray, List.getElem_cons_zero, List.getElem_cons_succ])
          refine' wpAnyH_take (i := 18) (v := _) rfl (by kernel_rfl) (by kernel_rfl) (by kernel_rfl) (fun _ _ _ h => h) (.inr ⟨by rfl, rfl⟩) (by assumption) ?rest51
          (try simp only [Act.put, List.setIfInBounds_toArray, List.set_cons_zero, List.set_cons_succ, List.getElem_toArray, List.getElem_cons_zero, List.getElem_cons_succ])
          refine' wpAnyH_take (i := 19) (v := _) rfl (by kernel_rfl) (by kernel_rfl) (by kernel_rfl) (fun _ _ _ h => h) (.inr ⟨by rfl, rfl⟩) (by assumption) ?rest52
          (try simp only [Act.put, List.setIfInBounds_toArray, List.set_cons_zero, List.set_cons_succ, List.getElem_toArray, List.getElem_cons_zero, List.getElem_cons_succ])
          refine' wpAnyH_take (i := 20) (v := _) rfl (by kernel_rfl) (by kernel_rfl) (by kernel_rfl) (fun _ _ _ h => h) (.inr ⟨by rfl, rfl⟩) (by assumption) ?rest53
          (try simp only [Act.put, List.setIfInBounds_toArray, List.set_cons_zero, List.set_cons_succ, List.getElem_toArray, List.getElem_cons_zero, List.getElem_cons_succ])
          refine' wpAnyH_take (i := 21) (v := _) rfl (by kernel_rfl) (by kernel_rfl) (by kernel_rfl) (fun _ _ _ h => h) (.inr ⟨by rfl, rfl⟩) (by assumption) ?rest54
          (try simp only [Act.put, List.setIfInBounds_toArray, List.set_cons_zero, List.set_cons_succ, List.getElem_toArray, List.getElem_cons_zero, List.getElem_cons_succ])
          refine' wpAnyH_take (i := 22) (v := _) rfl (by kernel_rfl) (by kernel_rfl) (by kernel_rfl) (fun _ _ _ h => h) (.inr ⟨by rfl, rfl⟩) (by assumption) ?rest55
          (try simp only [Act.put, List.setIfInBounds_toArray, List.set_cons_zero, List.set_cons_succ, List.getElem_toArray, List.getElem_cons_zero, List.getElem_cons_succ])
          refine' wpAnyH_take (i := 23) (v := _) rfl (by kernel_rfl) (by kernel_rfl) (by kernel_rfl) (fun _ _ _ h => h) (.inr ⟨by rfl, rfl⟩) (by assumption) ?rest56
          (try simp only [Act.put, List.setIfInBounds_toArray, List.set_cons_zero, List.set_cons_succ, List.getElem_toArray, List.getElem_cons_zero, List.getElem_cons_succ])
          refine' wpAnyH_take (i := 24) (v := _) rfl (by kernel_rfl) (by kernel_rfl) (by kernel_rfl) (fun _ _ _ h => h) ?hy57 (by assumption) ?rest57
          case hy57 => exact .inl ⟨by rfl, by intro w' hSw; (try dsimp only at hSw); go_simp; (try with_reducible rfl)⟩
          (try simp only [Act.put, List.setIfInBounds_toArray, List.set_cons_zero, List.set_cons_succ, List.getElem_toArray, List.getElem_cons_zero, List.getElem_cons_succ])
          refine' wpAnyH_take (i := 25) (v := _) rfl (by kernel_rfl) (by kernel_rfl) (by kernel_rfl) (fun _ _ _ h => h) ?hy58 (by assumption) ?rest58
          case hy58 => exact .inl ⟨by rfl, by intro w' hSw; (try dsimp only at hSw); go_simp; (try with_reducible rfl)⟩
          (try simp only [Act.put, List.setIfInBounds_toArray, List.set_cons_zero, List.set_cons_succ, List.getElem_toArray, List.getElem_cons_zero, List.getElem_cons_succ])
          refine wpAnyH_done (by kernel_rfl) ?_ _
          obtain ⟨Ae, ce, z1, z2, hend⟩ := open_end (N := n + 50000000) rfl HA1.out.1 HA.out HA1.out.2 (by omega) (by omega)
          go_upto_region 13 with (fail)
          go_quiet (fail)
          go_wp2
          go_ret3
          first | (exact ⟨Lb, g, .slice Ae out.length ce, (⟨f, 0, nx, la⟩, out), rfl, (by have := HX.out; rw [HS0.out] at this; exact this), hend.1.drawn _, hend.2.1, hend.2.2⟩) | (exact ⟨Lb, g, .slice Ae out.length ce, rfl, ⟨f, 0, nx, la⟩, out, (by have := HX.out; rw [HS0.out] at this; exact this), hend.1.drawn _, hend.2.1, hend.2.2⟩)
      · have c1 : ∀ W, St w.heap.size bm w.heap.size Bo Bl Lb g L out n' W → Below w.heap.size w W → Calls Try.prog 46 #[.int .i64 L.file, .int .i64 L.at', .pointer (some ⟨w.heap.size, 0, none⟩), .pointer (some ⟨Bo, 0, none⟩), .pointer (some ⟨Bl, 0, none⟩)] W fun e w' => e = .returned (.bool true) ∧ St w.heap.size bm w.heap.size Bo Bl Lb g S1.1 S1.2 (n' + 1) w' ∧ Below w.heap.size w w' := fun W hS hB => by
          have := found_calls HM.out hB hS L.file L.at' f0 (by omega) a0 a1 hn1 hol
          rw [h1] at this
          exact this
        have HC1 := Aside0.mk c1
        have hst : stepP M (L, out) = some S1 := by unfold stepP; rw [h1]
        have HRn2 : Aside0 (∀ S', Runs M S1 S' → Runs M S0 S') := ⟨fun S' h => HRn.out _ (.go hst h)⟩
        have HB := Aside0.mk (step_some hst a0 a1)
        have HMS := Aside0.mk HW.out.1.meas
        clear c1 h1 hst
        go_upto_region 12 with (fail)
        refine wp_region_held_drew (S := (fun w' => w'.cell? ⟨Bl, 0, none⟩ = some (.pointer (some ⟨Lb, 0, none⟩)))) (by kernel_rfl) ?_ (fun hHeld => ?_)
        · (try dsimp only); (first | assumption | (go_split_ands; assumption) | (refine ⟨?_, ?_, ?_⟩ <;> assumption) | go_keep)
        refine' wpAnyH_take (i := 0) (v := _) rfl (by kernel_rfl) (by kernel_rfl) (by kernel_rfl) (fun _ _ _ h => h) ?hy59 (by assumption) ?rest59
        case hy59 => exact .inl ⟨by rfl, by intro w' hSw; (try dsimp only at hSw); go_simp; (try with_reducible rfl)⟩
        (try simp only [Act.put, List.setIfInBounds_toArray, List.set_cons_zero, List.set_cons_succ, List.getElem_toArray, List.getElem_cons_zero, List.getElem_cons_succ])
        refine' wpAnyH_take (i := 1) (v := _) rfl (by kernel_rfl) (by kernel_rfl) (by kernel_rfl) (fun _ _ _ h => h) ?hy60 (by assumption) ?rest60
        case hy60 => exact .inl ⟨by rfl, by intro w' hSw; (try dsimp only at hSw); go_simp; (try with_reducible rfl)⟩
        (try simp only [Act.put, List.setIfInBounds_toArray, List.set_cons_zero, List.set_cons_succ, List.getElem_toArray, List.getElem_cons_zero, List.getElem_cons_succ])
        refine' wpAnyH_take (i := 2) (v := _) rfl (by kernel_rfl) (by kernel_rfl) (by kernel_rfl) (fun _ _ _ h => h) ?hy61 (by assumption) ?rest61
        case hy61 => exact .inl ⟨by rfl, by intro w' hSw; (try dsimp only at hSw); go_simp; (try with_reducible rfl)⟩
        (try simp only [Act.put, List.setIfInBounds_toArray, List.set_cons_zero, List.set_cons_succ, List.getElem_toArray, List.getElem_cons_zero, List.getElem_cons_succ])
        refine' wpAnyH_take (i := 3) (v := _) rfl (by kernel_rfl) (by kernel_rfl) (by kernel_rfl) (fun _ _ _ h => h) ?hy62 (by assumption) ?rest62
        case hy62 => exact .inl ⟨by rfl, by intro w' hSw; (try dsimp only at hSw); go_simp; (try with_reducible rfl)⟩
        (try simp only [Act.put, List.setIfInBounds_toArray, List.set_cons_zero, List.set_cons_succ, List.getElem_toArray, List.getElem_cons_zero, List.getElem_cons_succ])
        refine' wpAnyH_take (i := 5) (v := _) rfl (by kernel_rfl) (by kernel_rfl) (by kernel_rfl) (fun _ _ _ h => h) ?hy63 (by assumption) ?rest63
        case hy63 => exact .inl ⟨by rfl, by intro w' hSw; (try dsimp only at hSw); go_simp; (try with_reducible rfl)⟩
        (try simp only [Act.put, List.setIfInBounds_toArray, List.set_cons_zero, List.set_cons_succ, List.getElem_toArray, List.getElem_cons_zero, List.getElem_cons_succ])
        refine' wpAnyH_take (i := 6) (v := _) rfl (by kernel_rfl) (by kernel_rfl) (by kernel_rfl) (fun _ _ _ h => h) ?hy64 (by assumption) ?rest64
        case hy64 => exact .inl ⟨by rfl, by intro w' hSw; (try dsimp only at hSw); go_simp; (try with_reducible rfl)⟩
        (try simp only [Act.put, List.setIfInBounds_toArray, List.set_cons_zero, List.set_cons_succ, List.getElem_toArray, List.getElem_cons_zero, List.getElem_cons_succ])
        refine' wpAnyH_take (i := 7) (v := _) rfl (by kernel_rfl) (by kernel_rfl) (by kernel_rfl) (fun _ _ _ h => h) ?hy65 (by assumption) ?rest65
        case hy65 => exact .inl ⟨by rfl, by intro w' hSw; (try dsimp only at hSw); go_simp; (try with_reducible rfl)⟩
        (try simp only [Act.put, List.setIfInBounds_toArray, List.set_cons_zero, List.set_cons_succ, List.getElem_toArray, List.getElem_cons_zero, List.getElem_cons_succ])
        refine wpAnyH_ready (rs := [4, 8]) (by kernel_rfl) (by simp) ?_
        refine AllReadyH.cons rfl (fun K hK => ?_) (AllReadyH.cons rfl (fun K hK => ?_) AllReadyH.nil)
        · go_simp
          refine hK.out _ _ ?_ (fun hHeld => ?_)
          · (try dsimp only); (first | assumption | (go_split_ands; assumption) | (refine ⟨?_, ?_, ?_⟩ <;> assumption) | go_keep)
          clear hK K
          (try simp only [Act.put, List.setIfInBounds_toArray, List.set_cons_zero, List.set_cons_succ, List.getElem_toArray, List.getElem_cons_zero, List.getElem_cons_succ])
          refine wpAnyH_ready (rs := [8]) (by kernel_rfl) (by simp) ?_
          refine AllReadyH.cons rfl (fun K hK => ?_) AllReadyH.nil
          go_simp
          refine hK.out _ _ ?_ (fun hHeld => ?_)
          · (try dsimp only); (first | assumption | (go_split_ands; assumption) | (refine ⟨?_, ?_, ?_⟩ <;> assumption) | go_keep)
          clear hK K
          (try simp only [Act.put, List.setIfInBounds_toArray, List.set_cons_zero, List.set_cons_succ, List.getElem_toArray, List.getElem_cons_zero, List.getElem_cons_succ])
          refine wpAnyH_ready (rs := [9]) (by kernel_rfl) (by simp) ?_
          refine AllReadyH.cons rfl (fun K hK => ?_) AllReadyH.nil
          go_simp
          go_at_call 46; refine (HC1.out _ (by first | exact HW.out.1.drew | exact HW.out.1) (by first | exact drew_below HW.out.2 | exact HW.out.2)).mono ?_; rintro e wA ⟨rfl, k1, k2⟩; have HA2 := Aside0.mk (And.intro k1 k2); obtain ⟨r1, r2, r3, r4, r5, r6, rf, ro⟩ := k1.cells; clear k1 k2
          refine hK.out _ _ ?_ (fun hHeld => ?_)
          · (try dsimp only); (first | assumption | (go_split_ands; assumption) | (refine ⟨?_, ?_, ?_⟩ <;> assumption) | go_keep)
          clear hK K
          (try simp only [Act.put, List.setIfInBounds_toArray, List.set_cons_zero, List.set_cons_succ, List.getElem_toArray, List.getElem_cons_zero, List.getElem_cons_succ])
          refine' wpAnyH_take (i := 10) (v := _) rfl (by kernel_rfl) (by kernel_rfl) (by kernel_rfl) (fun _ _ _ h => h) ?hy66 (by assumption) ?rest66
          case hy66 => exact .inl ⟨by rfl, by intro w' hSw; (try dsimp only at hSw); go_simp; (try with_reducible rfl)⟩
          (try simp only [Act.put, List.setIfInBounds_toArray, List.set_cons_zero, List.set_cons_succ, List.getElem_toArray, List.getElem_cons_zero, List.getElem_cons_succ])
          refine' wpAnyH_take (i := 11) (v := _) rfl (by kernel_rfl) (by kernel_rfl) (by kernel_rfl) (fun _ _ _ h => h) (.inr ⟨by rfl, rfl⟩) (by assumption) ?rest67
          (try simp only [Act.put, List.setIfInBounds_toArray, List.set_cons_zero, List.set_cons_succ, List.getElem_toArray, List.getElem_cons_zero, List.getElem_cons_succ])
          refine' wpAnyH_take (i := 12) (v := _) rfl (by kernel_rfl) (by kernel_rfl) (by kernel_rfl) (fun _ _ _ h => h) (.inr ⟨by rfl, rfl⟩) (by assumption) ?rest68
          (try simp only [Act.put, List.setIfInBounds_toArray, List.set_cons_zero, List.set_cons_succ, List.getElem_toArray, List.getElem_cons_zero, List.getElem_cons_succ])
          refine' wpAnyH_take (i := 13) (v := _) rfl (by kernel_rfl) (by kernel_rfl) (by kernel_rfl) (fun _ _ _ h => h) (.inr ⟨by rfl, rfl⟩) (by assumption) ?rest69
          (try simp only [Act.put, List.setIfInBounds_toArray, List.set_cons_zero, List.set_cons_succ, List.getElem_toArray, List.getElem_cons_zero, List.getElem_cons_succ])
          refine' wpAnyH_take (i := 14) (v := _) rfl (by kernel_rfl) (by kernel_rfl) (by kernel_rfl) (fun _ _ _ h => h) (.inr ⟨by rfl, rfl⟩) (by assumption) ?rest70
          (try simp only [Act.put, List.setIfInBounds_toArray, List.set_cons_zero, List.set_cons_succ, List.getElem_toArray, List.getElem_cons_zero, List.getElem_cons_succ])
          refine' wpAnyH_take (i := 15) (v := _) rfl (by kernel_rfl) (by kernel_rfl) (by kernel_rfl) (fun _ _ _ h => h) (.inr ⟨by rfl, rfl⟩) (by assumption) ?rest71
          (try simp only [Act.put, List.setIfInBounds_toArray, List.set_cons_zero, List.set_cons_succ, List.getElem_toArray, List.getElem_cons_zero, List.getElem_cons_succ])
          refine' wpAnyH_take (i := 16) (v := _) rfl (by kernel_rfl) (by kernel_rfl) (by kernel_rfl) (fun _ _ _ h => h) (.inr ⟨by rfl, rfl⟩) (by assumption) ?rest72
          (try simp only [Act.put, List.setIfInBounds_toArray, List.set_cons_zero, List.set_cons_succ, List.getElem_toArray, List.getElem_cons_zero, List.getElem_cons_succ])
          refine' wpAnyH_take (i := 17) (v := _) rfl (by kernel_rfl) (by kernel_rfl) (by kernel_rfl) (fun _ _ _ h => h) (.inr ⟨by rfl, rfl⟩) (by assumption) ?rest73
          (try simp only [Act.put, List.setIfInBounds_toArray, List.set_cons_zero, List.set_cons_succ, List.getElem_toArray, List.getElem_cons_zero, List.getElem_cons_succ])
          refine' wpAnyH_take (i := 18) (v := _) rfl (by kernel_rfl) (by kernel_rfl) (by kernel_rfl) (fun _ _ _ h => h) (.inr ⟨by rfl, rfl⟩) (by assumption) ?rest74
          (try simp only [Act.put, List.setIfInBounds_toArray, List.set_cons_zero, List.set_cons_succ, List.getElem_toArray, List.getElem_cons_zero, List.getElem_cons_succ])
          refine' wpAnyH_take (i := 19) (v := _) rfl (by kernel_rfl) (by kernel_rfl) (by kernel_rfl) (fun _ _ _ h => h) (.inr ⟨by rfl, rfl⟩) (by assumption) ?rest75
          (try simp only [Act.put, List.setIfInBounds_toArray, List.set_cons_zero, List.set_cons_succ, List.getElem_toArray, List.getElem_cons_zero, List.getElem_cons_succ])
          refine' wpAnyH_take (i := 20) (v := _) rfl (by kernel_rfl) (by kernel_rfl) (by kernel_rfl) (fun _ _ _ h => h) (.inr ⟨by rfl, rfl⟩) (by assumption) ?rest76
          (try simp only [Act.put, List.setIfInBounds_toArray, List.set_cons_zero, List.set_cons_succ, List.getElem_toArray, List.getElem_cons_zero, List.getElem_cons_succ])
          refine' wpAnyH_take (i := 21) (v := _) rfl (by kernel_rfl) (by kernel_rfl) (by kernel_rfl) (fun _ _ _ h => h) (.inr ⟨by rfl, rfl⟩) (by assumption) ?rest77
          (try simp only [Act.put, List.setIfInBounds_toArray, List.set_cons_zero, List.set_cons_succ, List.getElem_toArray, List.getElem_cons_zero, List.getElem_cons_succ])
          refine' wpAnyH_take (i := 22) (v := _) rfl (by kernel_rfl) (by kernel_rfl) (by kernel_rfl) (fun _ _ _ h => h) (.inr ⟨by rfl, rfl⟩) (by assumption) ?rest78
          (try simp only [Act.put, List.setIfInBounds_toArray, List.set_cons_zero, List.set_cons_succ, List.getElem_toArray, List.getElem_cons_zero, List.getElem_cons_succ])
          refine' wpAnyH_take (i := 23) (v := _) rfl (by kernel_rfl) (by kernel_rfl) (by kernel_rfl) (fun _ _ _ h => h) (.inr ⟨by rfl, rfl⟩) (by assumption) ?rest79
          (try simp only [Act.put, List.setIfInBounds_toArray, List.set_cons_zero, List.set_cons_succ, List.getElem_toArray, List.getElem_cons_zero, List.getElem_cons_succ])
          refine' wpAnyH_take (i := 24) (v := _) rfl (by kernel_rfl) (by kernel_rfl) (by kernel_rfl) (fun _ _ _ h => h) (.inr ⟨by rfl, rfl⟩) (by assumption) ?rest80
          (try simp only [Act.put, List.setIfInBounds_toArray, List.set_cons_zero, List.set_cons_succ, List.getElem_toArray, List.getElem_cons_zero, List.getElem_cons_succ])
          refine' wpAnyH_take (i := 25) (v := _) rfl (by kernel_rfl) (by kernel_rfl) (by kernel_rfl) (fun _ _ _ h => h) ?hy81 (by assumption) ?rest81
          case hy81 => exact .inl ⟨by rfl, by intro w' hSw; (try dsimp only at hSw); go_simp; (try with_reducible rfl)⟩
          (try simp only [Act.put, List.setIfInBounds_toArray, List.set_cons_zero, List.set_cons_succ, List.getElem_toArray, List.getElem_cons_zero, List.getElem_cons_succ])
          refine wpAnyH_done (by kernel_rfl) ?_ _
          go_wp2
          go_roundw
          case rel => exact ⟨S1.1, S1.2, _, ⟨HA2.out⟩, HRn2, by have := HB.out; omega, by have := HB.out; omega, by have := HB.out; omega, by have := HB.out; omega, by have := HB.out; (try simp only [] at this); omega, by have := HB.out; (try simp only [] at this); omega⟩
          case measure =>
            rw [HA2.out.1.meas, HMS.out]
            have := HB.out
            (try simp only [] at this)
            omega
        · go_simp
          refine hK.out _ _ ?_ (fun hHeld => ?_)
          · (try dsimp only); (first | assumption | (go_split_ands; assumption) | (refine ⟨?_, ?_, ?_⟩ <;> assumption) | go_keep)
          clear hK K
          (try simp only [Act.put, List.setIfInBounds_toArray, List.set_cons_zero, List.set_cons_succ, List.getElem_toArray, List.getElem_cons_zero, List.getElem_cons_succ])
          refine wpAnyH_ready (rs := [4]) (by kernel_rfl) (by simp) ?_
          refine AllReadyH.cons rfl (fun K hK => ?_) AllReadyH.nil
          go_simp
          refine hK.out _ _ ?_ (fun hHeld => ?_)
          · (try dsimp only); (first | assumption | (go_split_ands; assumption) | (refine ⟨?_, ?_, ?_⟩ <;> assumption) | go_keep)
          clear hK K
          (try simp only [Act.put, List.setIfInBounds_toArray, List.set_cons_zero, List.set_cons_succ, List.getElem_toArray, List.getElem_cons_zero, List.getElem_cons_succ])
          refine wpAnyH_ready (rs := [9]) (by kernel_rfl) (by simp) ?_
          refine AllReadyH.cons rfl (fun K hK => ?_) AllReadyH.nil
          go_simp
          go_at_call 46; refine (HC1.out _ (by first | exact HW.out.1.drew | exact HW.out.1) (by first | exact drew_below HW.out.2 | exact HW.out.2)).mono ?_; rintro e wA ⟨rfl, k1, k2⟩; have HA2 := Aside0.mk (And.intro k1 k2); obtain ⟨r1, r2, r3, r4, r5, r6, rf, ro⟩ := k1.cells; clear k1 k2
          refine hK.out _ _ ?_ (fun hHeld => ?_)
          · (try dsimp only); (first | assumption | (go_split_ands; assumption) | (refine ⟨?_, ?_, ?_⟩ <;> assumption) | go_keep)
          clear hK K
          (try simp only [Act.put, List.setIfInBounds_toArray, List.set_cons_zero, List.set_cons_succ, List.getElem_toArray, List.getElem_cons_zero, List.getElem_cons_succ])
          refine' wpAnyH_take (i := 10) (v := _) rfl (by kernel_rfl) (by kernel_rfl) (by kernel_rfl) (fun _ _ _ h => h) ?hy82 (by assumption) ?rest82
          case hy82 => exact .inl ⟨by rfl, by intro w' hSw; (try dsimp only at hSw); go_simp; (try with_reducible rfl)⟩
          (try simp only [Act.put, List.setIfInBounds_toArray, List.set_cons_zero, List.set_cons_succ, List.getElem_toArray, List.getElem_cons_zero, List.getElem_cons_succ])
          refine' wpAnyH_take (i := 11) (v := _) rfl (by kernel_rfl) (by kernel_rfl) (by kernel_rfl) (fun _ _ _ h => h) (.inr ⟨by rfl, rfl⟩) (by assumption) ?rest83
          (try simp only [Act.put, List.setIfInBounds_toArray, List.set_cons_zero, List.set_cons_succ, List.getElem_toArray, List.getElem_cons_zero, List.getElem_cons_succ])
          refine' wpAnyH_take (i := 12) (v := _) rfl (by kernel_rfl) (by kernel_rfl) (by kernel_rfl) (fun _ _ _ h => h) (.inr ⟨by rfl, rfl⟩) (by assumption) ?rest84
          (try simp only [Act.put, List.setIfInBounds_toArray, List.set_cons_zero, List.set_cons_succ, List.getElem_toArray, List.getElem_cons_zero, List.getElem_cons_succ])
          refine' wpAnyH_take (i := 13) (v := _) rfl (by kernel_rfl) (by kernel_rfl) (by kernel_rfl) (fun _ _ _ h => h) (.inr ⟨by rfl, rfl⟩) (by assumption) ?rest85
          (try simp only [Act.put, List.setIfInBounds_toArray, List.set_cons_zero, List.set_cons_succ, List.getElem_toArray, List.getElem_cons_zero, List.getElem_cons_succ])
          refine' wpAnyH_take (i := 14) (v := _) rfl (by kernel_rfl) (by kernel_rfl) (by kernel_rfl) (fun _ _ _ h => h) (.inr ⟨by rfl, rfl⟩) (by assumption) ?rest86
          (try simp only [Act.put, List.setIfInBounds_toArray, List.set_cons_zero, List.set_cons_succ, List.getElem_toArray, List.getElem_cons_zero, List.getElem_cons_succ])
          refine' wpAnyH_take (i := 15) (v := _) rfl (by kernel_rfl) (by kernel_rfl) (by kernel_rfl) (fun _ _ _ h => h) (.inr ⟨by rfl, rfl⟩) (by assumption) ?rest87
          (try simp only [Act.put, List.setIfInBounds_toArray, List.set_cons_zero, List.set_cons_succ, List.getElem_toArray, List.getElem_cons_zero, List.getElem_cons_succ])
          refine' wpAnyH_take (i := 16) (v := _) rfl (by kernel_rfl) (by kernel_rfl) (by kernel_rfl) (fun _ _ _ h => h) (.inr ⟨by rfl, rfl⟩) (by assumption) ?rest88
          (try simp only [Act.put, List.setIfInBounds_toArray, List.set_cons_zero, List.set_cons_succ, List.getElem_toArray, List.getElem_cons_zero, List.getElem_cons_succ])
          refine' wpAnyH_take (i := 17) (v := _) rfl (by kernel_rfl) (by kernel_rfl) (by kernel_rfl) (fun _ _ _ h => h) (.inr ⟨by rfl, rfl⟩) (by assumption) ?rest89
          (try simp only [Act.put, List.setIfInBounds_toArray, List.set_cons_zero, List.set_cons_succ, List.getElem_toArray, List.getElem_cons_zero, List.getElem_cons_succ])
          refine' wpAnyH_take (i := 18) (v := _) rfl (by kernel_rfl) (by kernel_rfl) (by kernel_rfl) (fun _ _ _ h => h) (.inr ⟨by rfl, rfl⟩) (by assumption) ?rest90
          (try simp only [Act.put, List.setIfInBounds_toArray, List.set_cons_zero, List.set_cons_succ, List.getElem_toArray, List.getElem_cons_zero, List.getElem_cons_succ])
          refine' wpAnyH_take (i := 19) (v := _) rfl (by kernel_rfl) (by kernel_rfl) (by kernel_rfl) (fun _ _ _ h => h) (.inr ⟨by rfl, rfl⟩) (by assumption) ?rest91
          (try simp only [Act.put, List.setIfInBounds_toArray, List.set_cons_zero, List.set_cons_succ, List.getElem_toArray, List.getElem_cons_zero, List.getElem_cons_succ])
          refine' wpAnyH_take (i := 20) (v := _) rfl (by kernel_rfl) (by kernel_rfl) (by kernel_rfl) (fun _ _ _ h => h) (.inr ⟨by rfl, rfl⟩) (by assumption) ?rest92
          (try simp only [Act.put, List.setIfInBounds_toArray, List.set_cons_zero, List.set_cons_succ, List.getElem_toArray, List.getElem_cons_zero, List.getElem_cons_succ])
          refine' wpAnyH_take (i := 21) (v := _) rfl (by kernel_rfl) (by kernel_rfl) (by kernel_rfl) (fun _ _ _ h => h) (.inr ⟨by rfl, rfl⟩) (by assumption) ?rest93
          (try simp only [Act.put, List.setIfInBounds_toArray, List.set_cons_zero, List.set_cons_succ, List.getElem_toArray, List.getElem_cons_zero, List.getElem_cons_succ])
          refine' wpAnyH_take (i := 22) (v := _) rfl (by kernel_rfl) (by kernel_rfl) (by kernel_rfl) (fun _ _ _ h => h) (.inr ⟨by rfl, rfl⟩) (by assumption) ?rest94
          (try simp only [Act.put, List.setIfInBounds_toArray, List.set_cons_zero, List.set_cons_succ, List.getElem_toArray, List.getElem_cons_zero, List.getElem_cons_succ])
          refine' wpAnyH_take (i := 23) (v := _) rfl (by kernel_rfl) (by kernel_rfl) (by kernel_rfl) (fun _ _ _ h => h) (.inr ⟨by rfl, rfl⟩) (by assumption) ?rest95
          (try simp only [Act.put, List.setIfInBounds_toArray, List.set_cons_zero, List.set_cons_succ, List.getElem_toArray, List.getElem_cons_zero, List.getElem_cons_succ])
          refine' wpAnyH_take (i := 24) (v := _) rfl (by kernel_rfl) (by kernel_rfl) (by kernel_rfl) (fun _ _ _ h => h) (.inr ⟨by rfl, rfl⟩) (by assumption) ?rest96
          (try simp only [Act.put, List.setIfInBounds_toArray, List.set_cons_zero, List.set_cons_succ, List.getElem_toArray, List.getElem_cons_zero, List.getElem_cons_succ])
          refine' wpAnyH_take (i := 25) (v := _) rfl (by kernel_rfl) (by kernel_rfl) (by kernel_rfl) (fun _ _ _ h => h) ?hy97 (by assumption) ?rest97
          case hy97 => exact .inl ⟨by rfl, by intro w' hSw; (try dsimp only at hSw); go_simp; (try with_reducible rfl)⟩
          (try simp only [Act.put, List.setIfInBounds_toArray, List.set_cons_zero, List.set_cons_succ, List.getElem_toArray, List.getElem_cons_zero, List.getElem_cons_succ])
          refine wpAnyH_done (by kernel_rfl) ?_ _
          go_wp2
          go_roundw
          case rel => exact ⟨S1.1, S1.2, _, ⟨HA2.out⟩, HRn2, by have := HB.out; omega, by have := HB.out; omega, by have := HB.out; omega, by have := HB.out; omega, by have := HB.out; (try simp only [] at this); omega, by have := HB.out; (try simp only [] at this); omega⟩
          case measure =>
            rw [HA2.out.1.meas, HMS.out]
            have := HB.out
            (try simp only [] at this)
            omega
  · have hS0' := Aside0.mk hS0
    clear hS0
    have hx := hKM x List.mem_cons_self
    obtain ⟨ad, c', hv, hcc, hcell⟩ := Lst.at_ HV.out (i := 0) (by simp)
    cases hv
    have q2 : w4.cell? ⟨Bl, 0, none⟩ = some (.pointer (some ⟨Lb, 0, none⟩)) := by have := HS4.out.1.cl; simp [World.cell?, this]
    have q3 : w4.cell? ⟨Lb, 1, none⟩ = some (.int .i64 2) := by have := HS4.out.1.cL; simp [World.cell?, this]
    have q4 : w4.frozen? ⟨Lb, 1, none⟩ = false := by have := HS4.out.1.cL; simp [World.frozen?, this]
    simp only [List.getD_cons_zero] at hcell
    have hk1 : 1 ≤ (x :: K).length := by simp
    clear hKM hK HV
    generalize (x :: K).length = k at *
    have hk2 : (0 : Int) < (k : Int) := by omega
    have m1 : (w4.setCell ⟨Lb, 1, none⟩ (.int .i64 x)).drew.cell? ⟨Bl, 0, none⟩ = some (.pointer (some ⟨Lb, 0, none⟩)) := (World.cell?_of_block (Med.heap_set_ne (w := w4) (ne_type HS4.out.1.cl HS4.out.1.cL (by decide)) 1 _)).trans q2
    have m2 : (w4.setCell ⟨Lb, 1, none⟩ (.int .i64 x)).drew.cell? ⟨ad, 0, none⟩ = some (.int .i64 x) := (World.cell?_of_block (Med.heap_set_ne (w := w4) (fun e => HNR.out (show some ad = some Lb from by rw [show ad = Lb from e])) 1 _)).trans hcell
    go_upto_region 9 with (fail)
    go_region_held3 (fun w' => w'.cell? ⟨Bl, 0, none⟩ = some (.pointer (some ⟨Lb, 0, none⟩)) ∧ w'.cell? ⟨ad, 0, none⟩ = some (.int .i64 x)) (first | (go_split_ands; assumption) | (refine ⟨?_, ?_⟩ <;> assumption) | go_keep) (fail)
    all_goals
      have HS5x : Aside0 (St0 w.heap.size bm w.heap.size Bl Lb g S0.1 (w4.setCell ⟨Lb, 1, none⟩ (.int .i64 x)).drew ∧ Below w.heap.size w (w4.setCell ⟨Lb, 1, none⟩ (.int .i64 x)).drew) := ⟨by
        rw [hS0'.out]
        exact ⟨(HS4.out.1.file x).after (w' := (w4.setCell ⟨Lb, 1, none⟩ (.int .i64 x)).drew) ⟨rfl, rfl, rfl, Nat.le_refl _, fun _ _ => rfl⟩, drew_below (HS4.out.2.setCell (p := ⟨Lb, 1, none⟩) HS4.out.1.l3 _)⟩⟩
      clear HS4 m1 m2 q2 q3 q4 hcell HNR
      generalize (w4.setCell ⟨Lb, 1, none⟩ (.int .i64 x)).drew = w5 at *
      have HS5 := HS5x
      clear HS5x
      have hs5 := HS5.out.2.size
      have HT : Aside0 (St w.heap.size bm w.heap.size w5.heap.size Bl Lb g S0.1 [] 0 (w5.alloc (.cells #[.slice none 0 0] 50 (0, 0))) ∧ Below w.heap.size w (w5.alloc (.cells #[.slice none 0 0] 50 (0, 0)))) := ⟨HS5.out.1.open_ hs5, HS5.out.2.alloc hs5 _⟩
      go_wp2_with (fail)
      generalize w5.alloc (.cells #[.slice none 0 0] 50 (0, 0)) = w6 at *
      generalize w5.heap.size = Bo at *
      clear hs5 HS5
      go_loopw [] (fun wr => ∃ (L : Lg) (out : List Fr) (n' : Nat), Aside0 (St w.heap.size bm w.heap.size Bo Bl Lb g L out n' wr ∧ Below w.heap.size w wr) ∧ Aside0 (∀ S', Runs M (L, out) S' → Runs M S0 S') ∧ 0 ≤ L.file ∧ L.file ≤ 1048577 ∧ 0 ≤ L.at' ∧ L.at' ≤ 16 ∧ (out.length : Int) ≤ 16 * L.file + L.at' ∧ n' ≤ 2 * out.length) (fun wr => meas Lb wr)
      case atStart => exact ⟨S0.1, [], 0, ⟨HT.out⟩, ⟨fun S' h => by have e : S0 = (S0.1, []) := Prod.ext rfl HG.out.2.2.2; rw [e]; exact h⟩, by have := HG.out; omega, by have := HG.out; omega, by have := HG.out; omega, by have := HG.out; omega, by have := HG.out; simp; omega, by simp⟩
      case round =>
        obtain ⟨L, out, n', HW, HRn, f0, f1, a0, a1, o1, n1⟩ := hrel
        clear HT
        have hol : out.length ≤ 1000000000 := by omega
        have hn1 : n' ≤ 1000000000 := by omega
        obtain ⟨q1, q2, q3, q4, q5, q6, qf, qo⟩ := HW.out.1.cells
        rcases h1 : foundP M (L, out) L.file L.at' with _ | S1
        · have c1 : ∀ W, St w.heap.size bm w.heap.size Bo Bl Lb g L out n' W → Below w.heap.size w W → Calls Try.prog 46 #[.int .i64 L.file, .int .i64 L.at', .pointer (some ⟨w.heap.size, 0, none⟩), .pointer (some ⟨Bo, 0, none⟩), .pointer (some ⟨Bl, 0, none⟩)] W fun e w' => e = .returned (.bool false) ∧ St w.heap.size bm w.heap.size Bo Bl Lb g L out (n' + 1) w' ∧ Below w.heap.size w w' := fun W hS hB => by
            have := found_calls HM.out hB hS L.file L.at' f0 (by omega) a0 a1 hn1 hol
            rw [h1] at this
            exact this
          have HC1 := Aside0.mk c1
          clear c1
          by_cases hat : L.at' > 0
          · have hw1 : IntKind.i64.wrap (L.file + 1) = L.file + 1 := by rw [IntKind.wrap_i64]; omega
            rcases h2 : foundP M (L, out) (L.file + 1) 0 with _ | S1
            · have c2 : ∀ W, St w.heap.size bm w.heap.size Bo Bl Lb g L out (n' + 1) W → Below w.heap.size w W → Calls Try.prog 46 #[.int .i64 (L.file + 1), .int .i64 0, .pointer (some ⟨w.heap.size, 0, none⟩), .pointer (some ⟨Bo, 0, none⟩), .pointer (some ⟨Bl, 0, none⟩)] W fun e w' => e = .returned (.bool false) ∧ St w.heap.size bm w.heap.size Bo Bl Lb g L out (n' + 1 + 1) w' ∧ Below w.heap.size w w' := fun W hS hB => by
                have := found_calls HM.out hB hS (L.file + 1) 0 (by omega) (by omega) (by omega) (by omega) (by omega) hol
                rw [h2] at this
                exact this
              have HC2 := Aside0.mk c2
              have HX : Aside0 (Runs M S0 (L, out)) := ⟨HRn.out _ (.stop (by unfold stepP; rw [h1]; simp only []; rw [if_pos hat, h2]))⟩
              clear c2 h1 h2
              go_upto_region 12 with (fail)
              first
                | (go_region_held3 (fun w' => w'.cell? ⟨Bl, 0, none⟩ = some (.pointer (some ⟨Lb, 0, none⟩)) ∧ w'.cell? ⟨Lb, 1, none⟩ = some (.int .i64 L.file) ∧ w'.cell? ⟨Lb, 2, none⟩ = some (.int .i64 L.at')) (first | (go_split_ands; assumption) | (refine ⟨?_, ?_, ?_⟩ <;> assumption) | go_keep) (first
                  | (go_at_call 46; have _t := HA1; refine (HC2.out _ HA1.out.1 HA1.out.2).mono ?_; rintro e wB ⟨rfl, k1, k2⟩; have HA2 := Aside0.mk (And.intro k1 k2); obtain ⟨t1, t2, t3, t4, t5, t6, tf, to_⟩ := k1.cells; clear k1 k2)
                  | (go_at_call 46; refine (HC1.out _ HW.out.1.drew (drew_below HW.out.2)).mono ?_; rintro e wA ⟨rfl, k1, k2⟩; have HA1 := Aside0.mk (And.intro k1 k2); obtain ⟨r1, r2, r3, r4, r5, r6, rf, ro⟩ := k1.cells; clear k1 k2)))
                | fail "held3 failed"
              all_goals
                obtain ⟨Ae, ce, z1, z2, hend⟩ := open_end (N := n + 50000000) rfl HA2.out.1 HA.out HA2.out.2 (by omega) (by omega)
                go_upto_region 13 with (fail)
                go_quiet (fail)
                go_wp2
                go_ret3
                first | (exact ⟨Lb, g, .slice Ae out.length ce, (L, out), rfl, (by have := HX.out; rw [HS0.out] at this; exact this), hend.1.drawn _, hend.2.1, hend.2.2⟩) | (exact ⟨Lb, g, .slice Ae out.length ce, rfl, L, out, (by have := HX.out; rw [HS0.out] at this; exact this), hend.1.drawn _, hend.2.1, hend.2.2⟩)
            · have c2 : ∀ W, St w.heap.size bm w.heap.size Bo Bl Lb g L out (n' + 1) W → Below w.heap.size w W → Calls Try.prog 46 #[.int .i64 (L.file + 1), .int .i64 0, .pointer (some ⟨w.heap.size, 0, none⟩), .pointer (some ⟨Bo, 0, none⟩), .pointer (some ⟨Bl, 0, none⟩)] W fun e w' => e = .returned (.bool true) ∧ St w.heap.size bm w.heap.size Bo Bl Lb g S1.1 S1.2 (n' + 1 + 1) w' ∧ Below w.heap.size w w' := fun W hS hB => by
                have := found_calls HM.out hB hS (L.file + 1) 0 (by omega) (by omega) (by omega) (by omega) (by omega) hol
                rw [h2] at this
                exact this
              have HC2 := Aside0.mk c2
              have hst : stepP M (L, out) = some S1 := by unfold stepP; rw [h1]; simp only []; rw [if_pos hat, h2]
              have HRn2 : Aside0 (∀ S', Runs M S1 S' → Runs M S0 S') := ⟨fun S' h => HRn.out _ (.go hst h)⟩
              have HB := Aside0.mk (step_some hst a0 a1)
              have HMS := Aside0.mk HW.out.1.meas
              clear c2 h1 h2 hst
              go_upto_region 12 with (fail)
              refine wp_region_held_drew (S := (fun w' => w'.cell? ⟨Bl, 0, none⟩ = some (.pointer (some ⟨Lb, 0, none⟩)))) (by kernel_rfl) ?_ (fun hHeld => ?_)
              · (try dsimp only); (first | assumption | (go_split_ands; assumption) | (refine ⟨?_, ?_, ?_⟩ <;> assumption) | go_keep)
              refine' wpAnyH_take (i := 0) (v := _) rfl (by kernel_rfl) (by kernel_rfl) (by kernel_rfl) (fun _ _ _ h => h) ?hy98 (by assumption) ?rest98
              case hy98 => exact .inl ⟨by rfl, by intro w' hSw; (try dsimp only at hSw); go_simp; (try with_reducible rfl)⟩
              (try simp only [Act.put, List.setIfInBounds_toArray, List.set_cons_zero, List.set_cons_succ, List.getElem_toArray, List.getElem_cons_zero, List.getElem_cons_succ])
              refine' wpAnyH_take (i := 1) (v := _) rfl (by kernel_rfl) (by kernel_rfl) (by kernel_rfl) (fun _ _ _ h => h) ?hy99 (by assumption) ?rest99
              case hy99 => exact .inl ⟨by rfl, by intro w' hSw; (try dsimp only at hSw); go_simp; (try with_reducible rfl)⟩
              (try simp only [Act.put, List.setIfInBounds_toArray, List.set_cons_zero, List.set_cons_succ, List.getElem_toArray, List.getElem_cons_zero, List.getElem_cons_succ])
              refine' wpAnyH_take (i := 2) (v := _) rfl (by kernel_rfl) (by kernel_rfl) (by kernel_rfl) (fun _ _ _ h => h) ?hy100 (by assumption) ?rest100
              case hy100 => exact .inl ⟨by rfl, by intro w' hSw; (try dsimp only at hSw); go_simp; (try with_reducible rfl)⟩
              (try simp only [Act.put, List.setIfInBounds_toArray, List.set_cons_zero, List.set_cons_succ, List.getElem_toArray, List.getElem_cons_zero, List.getElem_cons_succ])
              refine' wpAnyH_take (i := 3) (v := _) rfl (by kernel_rfl) (by kernel_rfl) (by kernel_rfl) (fun _ _ _ h => h) ?hy101 (by assumption) ?rest101
              case hy101 => exact .inl ⟨by rfl, by intro w' hSw; (try dsimp only at hSw); go_simp; (try with_reducible rfl)⟩
              (try simp only [Act.put, List.setIfInBounds_toArray, List.set_cons_zero, List.set_cons_succ, List.getElem_toArray, List.getElem_cons_zero, List.getElem_cons_succ])
              refine' wpAnyH_take (i := 5) (v := _) rfl (by kernel_rfl) (by kernel_rfl) (by kernel_rfl) (fun _ _ _ h => h) ?hy102 (by assumption) ?rest102
              case hy102 => exact .inl ⟨by rfl, by intro w' hSw; (try dsimp only at hSw); go_simp; (try with_reducible rfl)⟩
              (try simp only [Act.put, List.setIfInBounds_toArray, List.set_cons_zero, List.set_cons_succ, List.getElem_toArray, List.getElem_cons_zero, List.getElem_cons_succ])
              refine' wpAnyH_take (i := 6) (v := _) rfl (by kernel_rfl) (by kernel_rfl) (by kernel_rfl) (fun _ _ _ h => h) ?hy103 (by assumption) ?rest103
              case hy103 => exact .inl ⟨by rfl, by intro w' hSw; (try dsimp only at hSw); go_simp; (try with_reducible rfl)⟩
              (try simp only [Act.put, List.setIfInBounds_toArray, List.set_cons_zero, List.set_cons_succ, List.getElem_toArray, List.getElem_cons_zero, List.getElem_cons_succ])
              refine' wpAnyH_take (i := 7) (v := _) rfl (by kernel_rfl) (by kernel_rfl) (by kernel_rfl) (fun _ _ _ h => h) ?hy104 (by assumption) ?rest104
              case hy104 => exact .inl ⟨by rfl, by intro w' hSw; (try dsimp only at hSw); go_simp; (try with_reducible rfl)⟩
              (try simp only [Act.put, List.setIfInBounds_toArray, List.set_cons_zero, List.set_cons_succ, List.getElem_toArray, List.getElem_cons_zero, List.getElem_cons_succ])
              refine wpAnyH_ready (rs := [4, 8]) (by kernel_rfl) (by simp) ?_
              refine AllReadyH.cons rfl (fun K hK => ?_) (AllReadyH.cons rfl (fun K hK => ?_) AllReadyH.nil)
              · go_simp
                refine hK.out _ _ ?_ (fun hHeld => ?_)
                · (try dsimp only); (first | assumption | (go_split_ands; assumption) | (refine ⟨?_, ?_, ?_⟩ <;> assumption) | go_keep)
                clear hK K
                (try simp only [Act.put, List.setIfInBounds_toArray, List.set_cons_zero, List.set_cons_succ, List.getElem_toArray, List.getElem_cons_zero, List.getElem_cons_succ])
                refine wpAnyH_ready (rs := [8]) (by kernel_rfl) (by simp) ?_
                refine AllReadyH.cons rfl (fun K hK => ?_) AllReadyH.nil
                go_simp
                refine hK.out _ _ ?_ (fun hHeld => ?_)
                · (try dsimp only); (first | assumption | (go_split_ands; assumption) | (refine ⟨?_, ?_, ?_⟩ <;> assumption) | go_keep)
                clear hK K
                (try simp only [Act.put, List.setIfInBounds_toArray, List.set_cons_zero, List.set_cons_succ, List.getElem_toArray, List.getElem_cons_zero, List.getElem_cons_succ])
                refine wpAnyH_ready (rs := [9]) (by kernel_rfl) (by simp) ?_
                refine AllReadyH.cons rfl (fun K hK => ?_) AllReadyH.nil
                go_simp
                go_at_call 46; refine (HC1.out _ HW.out.1.drew (drew_below HW.out.2)).mono ?_; rintro e wA ⟨rfl, k1, k2⟩; have HA1 := Aside0.mk (And.intro k1 k2); obtain ⟨r1, r2, r3, r4, r5, r6, rf, ro⟩ := k1.cells; clear k1 k2
                refine hK.out _ _ ?_ (fun hHeld => ?_)
                · (try dsimp only); (first | assumption | (go_split_ands; assumption) | (refine ⟨?_, ?_, ?_⟩ <;> assumption) | go_keep)
                clear hK K
                (try simp only [Act.put, List.setIfInBounds_toArray, List.set_cons_zero, List.set_cons_succ, List.getElem_toArray, List.getElem_cons_zero, List.getElem_cons_succ])
                refine' wpAnyH_take (i := 10) (v := _) rfl (by kernel_rfl) (by kernel_rfl) (by kernel_rfl) (fun _ _ _ h => h) ?hy105 (by assumption) ?rest105
                case hy105 => exact .inl ⟨by rfl, by intro w' hSw; (try dsimp only at hSw); go_simp; (try with_reducible rfl)⟩
                (try simp only [Act.put, List.setIfInBounds_toArray, List.set_cons_zero, List.set_cons_succ, List.getElem_toArray, List.getElem_cons_zero, List.getElem_cons_succ])
                refine' wpAnyH_take (i := 11) (v := _) rfl (by kernel_rfl) (by kernel_rfl) (by kernel_rfl) (fun _ _ _ h => h) ?hy106 (by assumption) ?rest106
                case hy106 => exact .inl ⟨by rfl, by intro w' hSw; (try dsimp only at hSw); go_simp; (try with_reducible rfl)⟩
                (try simp only [Act.put, List.setIfInBounds_toArray, List.set_cons_zero, List.set_cons_succ, List.getElem_toArray, List.getElem_cons_zero, List.getElem_cons_succ])
                refine' wpAnyH_take (i := 12) (v := _) rfl (by kernel_rfl) (by kernel_rfl) (by kernel_rfl) (fun _ _ _ h => h) ?hy107 (by assumption) ?rest107
                case hy107 => exact .inl ⟨by rfl, by intro w' hSw; (try dsimp only at hSw); go_simp; (try with_reducible rfl)⟩
                (try simp only [Act.put, List.setIfInBounds_toArray, List.set_cons_zero, List.set_cons_succ, List.getElem_toArray, List.getElem_cons_zero, List.getElem_cons_succ])
                refine' wpAnyH_take (i := 13) (v := _) rfl (by kernel_rfl) (by kernel_rfl) (by kernel_rfl) (fun _ _ _ h => h) ?hy108 (by assumption) ?rest108
                case hy108 => exact .inl ⟨by rfl, by intro w' hSw; (try dsimp only at hSw); go_simp; (try with_reducible rfl)⟩
                (try simp only [Act.put, List.setIfInBounds_toArray, List.set_cons_zero, List.set_cons_succ, List.getElem_toArray, List.getElem_cons_zero, List.getElem_cons_succ])
                refine wpAnyH_ready (rs := [14]) (by kernel_rfl) (by simp) ?_
                refine AllReadyH.cons rfl (fun K hK => ?_) AllReadyH.nil
                go_simp
                refine hK.out _ _ ?_ (fun hHeld => ?_)
                · (try dsimp only); (first | assumption | (go_split_ands; assumption) | (refine ⟨?_, ?_, ?_⟩ <;> assumption) | go_keep)
                clear hK K
                (try simp only [Act.put, List.setIfInBounds_toArray, List.set_cons_zero, List.set_cons_succ, List.getElem_toArray, List.getElem_cons_zero, List.getElem_cons_succ])
                refine' wpAnyH_take (i := 15) (v := _) rfl (by kernel_rfl) (by kernel_rfl) (by kernel_rfl) (fun _ _ _ h => h) ?hy109 (by assumption) ?rest109
                case hy109 => exact .inl ⟨by rfl, by intro w' hSw; (try dsimp only at hSw); go_simp; (try with_reducible rfl)⟩
                (try simp only [Act.put, List.setIfInBounds_toArray, List.set_cons_zero, List.set_cons_succ, List.getElem_toArray, List.getElem_cons_zero, List.getElem_cons_succ])
                refine' wpAnyH_take (i := 16) (v := _) rfl (by kernel_rfl) (by kernel_rfl) (by kernel_rfl) (fun _ _ _ h => h) ?hy110 (by assumption) ?rest110
                case hy110 => exact .inl ⟨by rfl, by intro w' hSw; (try dsimp only at hSw); go_simp; (try with_reducible rfl)⟩
                (try simp only [Act.put, List.setIfInBounds_toArray, List.set_cons_zero, List.set_cons_succ, List.getElem_toArray, List.getElem_cons_zero, List.getElem_cons_succ])
                refine' wpAnyH_take (i := 17) (v := _) rfl (by kernel_rfl) (by kernel_rfl) (by kernel_rfl) (fun _ _ _ h => h) ?hy111 (by assumption) ?rest111
                case hy111 => exact .inl ⟨by rfl, by intro w' hSw; (try dsimp only at hSw); go_simp; (try with_reducible rfl)⟩
                (try simp only [Act.put, List.setIfInBounds_toArray, List.set_cons_zero, List.set_cons_succ, List.getElem_toArray, List.getElem_cons_zero, List.getElem_cons_succ])
                refine' wpAnyH_take (i := 18) (v := _) rfl (by kernel_rfl) (by kernel_rfl) (by kernel_rfl) (fun _ _ _ h => h) ?hy112 (by assumption) ?rest112
                case hy112 => exact .inl ⟨by rfl, by intro w' hSw; (try dsimp only at hSw); go_simp; (try with_reducible rfl)⟩
                (try simp only [Act.put, List.setIfInBounds_toArray, List.set_cons_zero, List.set_cons_succ, List.getElem_toArray, List.getElem_cons_zero, List.getElem_cons_succ])
                refine' wpAnyH_take (i := 19) (v := _) rfl (by kernel_rfl) (by kernel_rfl) (by kernel_rfl) (fun _ _ _ h => h) ?hy113 (by assumption) ?rest113
                case hy113 => exact .inl ⟨by rfl, by intro w' hSw; (try dsimp only at hSw); go_simp; (try with_reducible rfl)⟩
                (try simp only [Act.put, List.setIfInBounds_toArray, List.set_cons_zero, List.set_cons_succ, List.getElem_toArray, List.getElem_cons_zero, List.getElem_cons_succ])
                refine' wpAnyH_take (i := 20) (v := _) rfl (by kernel_rfl) (by kernel_rfl) (by kernel_rfl) (fun _ _ _ h => h) ?hy114 (by assumption) ?rest114
                case hy114 => exact .inl ⟨by rfl, by intro w' hSw; (try dsimp only at hSw); go_simp; (try with_reducible rfl)⟩
                (try simp only [Act.put, List.setIfInBounds_toArray, List.set_cons_zero, List.set_cons_succ, List.getElem_toArray, List.getElem_cons_zero, List.getElem_cons_succ])
                refine wpAnyH_ready (rs := [21]) (by kernel_rfl) (by simp) ?_
                refine AllReadyH.cons rfl (fun K hK => ?_) AllReadyH.nil
                go_simp
                refine hK.out _ _ ?_ (fun hHeld => ?_)
                · (try dsimp only); (first | assumption | (go_split_ands; assumption) | (refine ⟨?_, ?_, ?_⟩ <;> assumption) | go_keep)
                clear hK K
                (try simp only [Act.put, List.setIfInBounds_toArray, List.set_cons_zero, List.set_cons_succ, List.getElem_toArray, List.getElem_cons_zero, List.getElem_cons_succ])
                refine' wpAnyH_take (i := 22) (v := _) rfl (by kernel_rfl) (by kernel_rfl) (by kernel_rfl) (fun _ _ _ h => h) ?hy115 (by assumption) ?rest115
                case hy115 => exact .inl ⟨by rfl, by intro w' hSw; (try dsimp only at hSw); go_simp; (try with_reducible rfl)⟩
                (try simp only [Act.put, List.setIfInBounds_toArray, List.set_cons_zero, List.set_cons_succ, List.getElem_toArray, List.getElem_cons_zero, List.getElem_cons_succ])
                refine wpAnyH_ready (rs := [23]) (by kernel_rfl) (by simp) ?_
                refine AllReadyH.cons rfl (fun K hK => ?_) AllReadyH.nil
                go_simp
                go_at_call 46; have _t := HA1; refine (HC2.out _ HA1.out.1 HA1.out.2).mono ?_; rintro e wB ⟨rfl, k1, k2⟩; have HA2 := Aside0.mk (And.intro k1 k2); obtain ⟨t1, t2, t3, t4, t5, t6, tf, to_⟩ := k1.cells; clear k1 k2
                refine hK.out _ _ ?_ (fun hHeld => ?_)
                · (try dsimp only); (first | assumption | (go_split_ands; assumption) | (refine ⟨?_, ?_, ?_⟩ <;> assumption) | go_keep)
                clear hK K
                (try simp only [Act.put, List.setIfInBounds_toArray, List.set_cons_zero, List.set_cons_succ, List.getElem_toArray, List.getElem_cons_zero, List.getElem_cons_succ])
                refine' wpAnyH_take (i := 24) (v := _) rfl (by kernel_rfl) (by kernel_rfl) (by kernel_rfl) (fun _ _ _ h => h) ?hy116 (by assumption) ?rest116
                case hy116 => exact .inl ⟨by rfl, by intro w' hSw; (try dsimp only at hSw); go_simp; (try with_reducible rfl)⟩
                (try simp only [Act.put, List.setIfInBounds_toArray, List.set_cons_zero, List.set_cons_succ, List.getElem_toArray, List.getElem_cons_zero, List.getElem_cons_succ])
                refine' wpAnyH_take (i := 25) (v := _) rfl (by kernel_rfl) (by kernel_rfl) (by kernel_rfl) (fun _ _ _ h => h) ?hy117 (by assumption) ?rest117
                case hy117 => exact .inl ⟨by rfl, by intro w' hSw; (try dsimp only at hSw); go_simp; (try with_reducible rfl)⟩
                (try simp only [Act.put, List.setIfInBounds_toArray, List.set_cons_zero, List.set_cons_succ, List.getElem_toArray, List.getElem_cons_zero, List.getElem_cons_succ])
                refine wpAnyH_done (by kernel_rfl) ?_ _
                go_wp2
                go_roundw
                case rel => exact ⟨S1.1, S1.2, _, ⟨HA2.out⟩, HRn2, by have := HB.out; omega, by have := HB.out; omega, by have := HB.out; omega, by have := HB.out; omega, by have := HB.out; (try simp only [] at this); omega, by have := HB.out; (try simp only [] at this); omega⟩
                case measure =>
                  rw [HA2.out.1.meas, HMS.out]
                  have := HB.out
                  (try simp only [] at this)
                  omega
              · go_simp
                refine hK.out _ _ ?_ (fun hHeld => ?_)
                · (try dsimp only); (first | assumption | (go_split_ands; assumption) | (refine ⟨?_, ?_, ?_⟩ <;> assumption) | go_keep)
                clear hK K
                (try simp only [Act.put, List.setIfInBounds_toArray, List.set_cons_zero, List.set_cons_succ, List.getElem_toArray, List.getElem_cons_zero, List.getElem_cons_succ])
                refine wpAnyH_ready (rs := [4]) (by kernel_rfl) (by simp) ?_
                refine AllReadyH.cons rfl (fun K hK => ?_) AllReadyH.nil
                go_simp
                refine hK.out _ _ ?_ (fun hHeld => ?_)
                · (try dsimp only); (first | assumption | (go_split_ands; assumption) | (refine ⟨?_, ?_, ?_⟩ <;> assumption) | go_keep)
                clear hK K
                (try simp only [Act.put, List.setIfInBounds_toArray, List.set_cons_zero, List.set_cons_succ, List.getElem_toArray, List.getElem_cons_zero, List.getElem_cons_succ])
                refine wpAnyH_ready (rs := [9]) (by kernel_rfl) (by simp) ?_
                refine AllReadyH.cons rfl (fun K hK => ?_) AllReadyH.nil
                go_simp
                go_at_call 46; refine (HC1.out _ HW.out.1.drew (drew_below HW.out.2)).mono ?_; rintro e wA ⟨rfl, k1, k2⟩; have HA1 := Aside0.mk (And.intro k1 k2); obtain ⟨r1, r2, r3, r4, r5, r6, rf, ro⟩ := k1.cells; clear k1 k2
                refine hK.out _ _ ?_ (fun hHeld => ?_)
                · (try dsimp only); (first | assumption | (go_split_ands; assumption) | (refine ⟨?_, ?_, ?_⟩ <;> assumption) | go_keep)
                clear hK K
                (try simp only [Act.put, List.setIfInBounds_toArray, List.set_cons_zero, List.set_cons_succ, List.getElem_toArray, List.getElem_cons_zero, List.getElem_cons_succ])
                refine' wpAnyH_take (i := 10) (v := _) rfl (by kernel_rfl) (by kernel_rfl) (by kernel_rfl) (fun _ _ _ h => h) ?hy118 (by assumption) ?rest118
                case hy118 => exact .inl ⟨by rfl, by intro w' hSw; (try dsimp only at hSw); go_simp; (try with_reducible rfl)⟩
                (try simp only [Act.put, List.setIfInBounds_toArray, List.set_cons_zero, List.set_cons_succ, List.getElem_toArray, List.getElem_cons_zero, List.getElem_cons_succ])
                refine' wpAnyH_take (i := 11) (v := _) rfl (by kernel_rfl) (by kernel_rfl) (by kernel_rfl) (fun _ _ _ h => h) ?hy119 (by assumption) ?rest119
                case hy119 => exact .inl ⟨by rfl, by intro w' hSw; (try dsimp only at hSw); go_simp; (try with_reducible rfl)⟩
                (try simp only [Act.put, List.setIfInBounds_toArray, List.set_cons_zero, List.set_cons_succ, List.getElem_toArray, List.getElem_cons_zero, List.getElem_cons_succ])
                refine' wpAnyH_take (i := 12) (v := _) rfl (by kernel_rfl) (by kernel_rfl) (by kernel_rfl) (fun _ _ _ h => h) ?hy120 (by assumption) ?rest120
                case hy120 => exact .inl ⟨by rfl, by intro w' hSw; (try dsimp only at hSw); go_simp; (try with_reducible rfl)⟩
                (try simp only [Act.put, List.setIfInBounds_toArray, List.set_cons_zero, List.set_cons_succ, List.getElem_toArray, List.getElem_cons_zero, List.getElem_cons_succ])
                refine' wpAnyH_take (i := 13) (v := _) rfl (by kernel_rfl) (by kernel_rfl) (by kernel_rfl) (fun _ _ _ h => h) ?hy121 (by assumption) ?rest121
                case hy121 => exact .inl ⟨by rfl, by intro w' hSw; (try dsimp only at hSw); go_simp; (try with_reducible rfl)⟩
                (try simp only [Act.put, List.setIfInBounds_toArray, List.set_cons_zero, List.set_cons_succ, List.getElem_toArray, List.getElem_cons_zero, List.getElem_cons_succ])
                refine wpAnyH_ready (rs := [14]) (by kernel_rfl) (by simp) ?_
                refine AllReadyH.cons rfl (fun K hK => ?_) AllReadyH.nil
                go_simp
                refine hK.out _ _ ?_ (fun hHeld => ?_)
                · (try dsimp only); (first | assumption | (go_split_ands; assumption) | (refine ⟨?_, ?_, ?_⟩ <;> assumption) | go_keep)
                clear hK K
                (try simp only [Act.put, List.setIfInBounds_toArray, List.set_cons_zero, List.set_cons_succ, List.getElem_toArray, List.getElem_cons_zero, List.getElem_cons_succ])
                refine' wpAnyH_take (i := 15) (v := _) rfl (by kernel_rfl) (by kernel_rfl) (by kernel_rfl) (fun _ _ _ h => h) ?hy122 (by assumption) ?rest122
                case hy122 => exact .inl ⟨by rfl, by intro w' hSw; (try dsimp only at hSw); go_simp; (try with_reducible rfl)⟩
                (try simp only [Act.put, List.setIfInBounds_toArray, List.set_cons_zero, List.set_cons_succ, List.getElem_toArray, List.getElem_cons_zero, List.getElem_cons_succ])
                refine' wpAnyH_take (i := 16) (v := _) rfl (by kernel_rfl) (by kernel_rfl) (by kernel_rfl) (fun _ _ _ h => h) ?hy123 (by assumption) ?rest123
                case hy123 => exact .inl ⟨by rfl, by intro w' hSw; (try dsimp only at hSw); go_simp; (try with_reducible rfl)⟩
                (try simp only [Act.put, List.setIfInBounds_toArray, List.set_cons_zero, List.set_cons_succ, List.getElem_toArray, List.getElem_cons_zero, List.getElem_cons_succ])
                refine' wpAnyH_take (i := 17) (v := _) rfl (by kernel_rfl) (by kernel_rfl) (by kernel_rfl) (fun _ _ _ h => h) ?hy124 (by assumption) ?rest124
                case hy124 => exact .inl ⟨by rfl, by intro w' hSw; (try dsimp only at hSw); go_simp; (try with_reducible rfl)⟩
                (try simp only [Act.put, List.setIfInBounds_toArray, List.set_cons_zero, List.set_cons_succ, List.getElem_toArray, List.getElem_cons_zero, List.getElem_cons_succ])
                refine' wpAnyH_take (i := 18) (v := _) rfl (by kernel_rfl) (by kernel_rfl) (by kernel_rfl) (fun _ _ _ h => h) ?hy125 (by assumption) ?rest125
                case hy125 => exact .inl ⟨by rfl, by intro w' hSw; (try dsimp only at hSw); go_simp; (try with_reducible rfl)⟩
                (try simp only [Act.put, List.setIfInBounds_toArray, List.set_cons_zero, List.set_cons_succ, List.getElem_toArray, List.getElem_cons_zero, List.getElem_cons_succ])
                refine' wpAnyH_take (i := 19) (v := _) rfl (by kernel_rfl) (by kernel_rfl) (by kernel_rfl) (fun _ _ _ h => h) ?hy126 (by assumption) ?rest126
                case hy126 => exact .inl ⟨by rfl, by intro w' hSw; (try dsimp only at hSw); go_simp; (try with_reducible rfl)⟩
                (try simp only [Act.put, List.setIfInBounds_toArray, List.set_cons_zero, List.set_cons_succ, List.getElem_toArray, List.getElem_cons_zero, List.getElem_cons_succ])
                refine' wpAnyH_take (i := 20) (v := _) rfl (by kernel_rfl) (by kernel_rfl) (by kernel_rfl) (fun _ _ _ h => h) ?hy127 (by assumption) ?rest127
                case hy127 => exact .inl ⟨by rfl, by intro w' hSw; (try dsimp only at hSw); go_simp; (try with_reducible rfl)⟩
                (try simp only [Act.put, List.setIfInBounds_toArray, List.set_cons_zero, List.set_cons_succ, List.getElem_toArray, List.getElem_cons_zero, List.getElem_cons_succ])
                refine wpAnyH_ready (rs := [21]) (by kernel_rfl) (by simp) ?_
                refine AllReadyH.cons rfl (fun K hK => ?_) AllReadyH.nil
                go_simp
                refine hK.out _ _ ?_ (fun hHeld => ?_)
                · (try dsimp only); (first | assumption | (go_split_ands; assumption) | (refine ⟨?_, ?_, ?_⟩ <;> assumption) | go_keep)
                clear hK K
                (try simp only [Act.put, List.setIfInBounds_toArray, List.set_cons_zero, List.set_cons_succ, List.getElem_toArray, List.getElem_cons_zero, List.getElem_cons_succ])
                refine' wpAnyH_take (i := 22) (v := _) rfl (by kernel_rfl) (by kernel_rfl) (by kernel_rfl) (fun _ _ _ h => h) ?hy128 (by assumption) ?rest128
                case hy128 => exact .inl ⟨by rfl, by intro w' hSw; (try dsimp only at hSw); go_simp; (try with_reducible rfl)⟩
                (try simp only [Act.put, List.setIfInBounds_toArray, List.set_cons_zero, List.set_cons_succ, List.getElem_toArray, List.getElem_cons_zero, List.getElem_cons_succ])
                refine wpAnyH_ready (rs := [23]) (by kernel_rfl) (by simp) ?_
                refine AllReadyH.cons rfl (fun K hK => ?_) AllReadyH.nil
                go_simp
                go_at_call 46; have _t := HA1; refine (HC2.out _ HA1.out.1 HA1.out.2).mono ?_; rintro e wB ⟨rfl, k1, k2⟩; have HA2 := Aside0.mk (And.intro k1 k2); obtain ⟨t1, t2, t3, t4, t5, t6, tf, to_⟩ := k1.cells; clear k1 k2
                refine hK.out _ _ ?_ (fun hHeld => ?_)
                · (try dsimp only); (first | assumption | (go_split_ands; assumption) | (refine ⟨?_, ?_, ?_⟩ <;> assumption) | go_keep)
                clear hK K
                (try simp only [Act.put, List.setIfInBounds_toArray, List.set_cons_zero, List.set_cons_succ, List.getElem_toArray, List.getElem_cons_zero, List.getElem_cons_succ])
                refine' wpAnyH_take (i := 24) (v := _) rfl (by kernel_rfl) (by kernel_rfl) (by kernel_rfl) (fun _ _ _ h => h) ?hy129 (by assumption) ?rest129
                case hy129 => exact .inl ⟨by rfl, by intro w' hSw; (try dsimp only at hSw); go_simp; (try with_reducible rfl)⟩
                (try simp only [Act.put, List.setIfInBounds_toArray, List.set_cons_zero, List.set_cons_succ, List.getElem_toArray, List.getElem_cons_zero, List.getElem_cons_succ])
                refine' wpAnyH_take (i := 25) (v := _) rfl (by kernel_rfl) (by kernel_rfl) (by kernel_rfl) (fun _ _ _ h => h) ?hy130 (by assumption) ?rest130
                case hy130 => exact .inl ⟨by rfl, by intro w' hSw; (try dsimp only at hSw); go_simp; (try with_reducible rfl)⟩
                (try simp only [Act.put, List.setIfInBounds_toArray, List.set_cons_zero, List.set_cons_succ, List.getElem_toArray, List.getElem_cons_zero, List.getElem_cons_succ])
                refine wpAnyH_done (by kernel_rfl) ?_ _
                go_wp2
                go_roundw
                case rel => exact ⟨S1.1, S1.2, _, ⟨HA2.out⟩, HRn2, by have := HB.out; omega, by have := HB.out; omega, by have := HB.out; omega, by have := HB.out; omega, by have := HB.out; (try simp only [] at this); omega, by have := HB.out; (try simp only [] at this); omega⟩
                case measure =>
                  rw [HA2.out.1.meas, HMS.out]
                  have := HB.out
                  (try simp only [] at this)
                  omega
          · have HX : Aside0 (Runs M S0 (L, out)) := ⟨HRn.out _ (.stop (by unfold stepP; rw [h1]; simp only []; rw [if_neg hat]))⟩
            have hat0 : L.at' = 0 := by omega
            clear h1 hat
            obtain ⟨f, a, nx, la⟩ := L
            have hat0 : a = 0 := hat0
            subst hat0
            simp only [] at q2 q3 q4 q5 q6 qf f0 f1 a0 a1 o1 HC1
            go_upto_region 12 with (fail)
            refine wp_region_held_drew (S := (fun w' => w'.cell? ⟨Bl, 0, none⟩ = some (.pointer (some ⟨Lb, 0, none⟩)) ∧ w'.cell? ⟨Lb, 1, none⟩ = some (.int .i64 f) ∧ w'.cell? ⟨Lb, 2, none⟩ = some (.int .i64 0))) (by kernel_rfl) ?_ (fun hHeld => ?_)
            · (try dsimp only); (first | assumption | (go_split_ands; assumption) | (refine ⟨?_, ?_, ?_⟩ <;> assumption) | go_keep)
            refine' wpAnyH_take (i := 0) (v := _) rfl (by kernel_rfl) (by kernel_rfl) (by kernel_rfl) (fun _ _ _ h => h) ?hy131 (by assumption) ?rest131
            case hy131 => exact .inl ⟨by rfl, by intro w' hSw; (try dsimp only at hSw); go_simp; (try with_reducible rfl)⟩
            (try simp only [Act.put, List.setIfInBounds_toArray, List.set_cons_zero, List.set_cons_succ, List.getElem_toArray, List.getElem_cons_zero, List.getElem_cons_succ])
            refine' wpAnyH_take (i := 1) (v := _) rfl (by kernel_rfl) (by kernel_rfl) (by kernel_rfl) (fun _ _ _ h => h) ?hy132 (by assumption) ?rest132
            case hy132 => exact .inl ⟨by rfl, by intro w' hSw; (try dsimp only at hSw); go_simp; (try with_reducible rfl)⟩
            (try simp only [Act.put, List.setIfInBounds_toArray, List.set_cons_zero, List.set_cons_succ, List.getElem_toArray, List.getElem_cons_zero, List.getElem_cons_succ])
            refine' wpAnyH_take (i := 2) (v := _) rfl (by kernel_rfl) (by kernel_rfl) (by kernel_rfl) (fun _ _ _ h => h) ?hy133 (by assumption) ?rest133
            case hy133 => exact .inl ⟨by rfl, by intro w' hSw; (try dsimp only at hSw); go_simp; (try with_reducible rfl)⟩
            (try simp only [Act.put, List.setIfInBounds_toArray, List.set_cons_zero, List.set_cons_succ, List.getElem_toArray, List.getElem_cons_zero, List.getElem_cons_succ])
            refine' wpAnyH_take (i := 3) (v := _) rfl (by kernel_rfl) (by kernel_rfl) (by kernel_rfl) (fun _ _ _ h => h) ?hy134 (by assumption) ?rest134
            case hy134 => exact .inl ⟨by rfl, by intro w' hSw; (try dsimp only at hSw); go_simp; (try with_reducible rfl)⟩
            (try simp only [Act.put, List.setIfInBounds_toArray, List.set_cons_zero, List.set_cons_succ, List.getElem_toArray, List.getElem_cons_zero, List.getElem_cons_succ])
            refine' wpAnyH_take (i := 4) (v := _) rfl (by kernel_rfl) (by kernel_rfl) (by kernel_rfl) (fun _ _ _ h => h) ?hy135 (by assumption) ?rest135
            case hy135 => exact .inl ⟨by rfl, by intro w' hSw; (try dsimp only at hSw); go_simp; (try with_reducible rfl)⟩
            (try simp only [Act.put, List.setIfInBounds_toArray, List.set_cons_zero, List.set_cons_succ, List.getElem_toArray, List.getElem_cons_zero, List.getElem_cons_succ])
            refine' wpAnyH_take (i := 5) (v := _) rfl (by kernel_rfl) (by kernel_rfl) (by kernel_rfl) (fun _ _ _ h => h) ?hy136 (by assumption) ?rest136
            case hy136 => exact .inl ⟨by rfl, by intro w' hSw; (try dsimp only at hSw); go_simp; (try with_reducible rfl)⟩
            (try simp only [Act.put, List.setIfInBounds_toArray, List.set_cons_zero, List.set_cons_succ, List.getElem_toArray, List.getElem_cons_zero, List.getElem_cons_succ])
            refine' wpAnyH_take (i := 6) (v := _) rfl (by kernel_rfl) (by kernel_rfl) (by kernel_rfl) (fun _ _ _ h => h) ?hy137 (by assumption) ?rest137
            case hy137 => exact .inl ⟨by rfl, by intro w' hSw; (try dsimp only at hSw); go_simp; (try with_reducible rfl)⟩
            (try simp only [Act.put, List.setIfInBounds_toArray, List.set_cons_zero, List.set_cons_succ, List.getElem_toArray, List.getElem_cons_zero, List.getElem_cons_succ])
            refine' wpAnyH_take (i := 7) (v := _) rfl (by kernel_rfl) (by kernel_rfl) (by kernel_rfl) (fun _ _ _ h => h) ?hy138 (by assumption) ?rest138
            case hy138 => exact .inl ⟨by rfl, by intro w' hSw; (try dsimp only at hSw); go_simp; (try with_reducible rfl)⟩
            (try simp only [Act.put, List.setIfInBounds_toArray, List.set_cons_zero, List.set_cons_succ, List.getElem_toArray, List.getElem_cons_zero, List.getElem_cons_succ])
            refine' wpAnyH_take (i := 8) (v := _) rfl (by kernel_rfl) (by kernel_rfl) (by kernel_rfl) (fun _ _ _ h => h) ?hy139 (by assumption) ?rest139
            case hy139 => exact .inl ⟨by rfl, by intro w' hSw; (try dsimp only at hSw); go_simp; (try with_reducible rfl)⟩
            (try simp only [Act.put, List.setIfInBounds_toArray, List.set_cons_zero, List.set_cons_succ, List.getElem_toArray, List.getElem_cons_zero, List.getElem_cons_succ])
            refine wpAnyH_ready (rs := [9]) (by kernel_rfl) (by simp) ?_
            refine AllReadyH.cons rfl (fun K hK => ?_) AllReadyH.nil
            go_simp
            go_at_call 46; refine (HC1.out _ HW.out.1.drew (drew_below HW.out.2)).mono ?_; rintro e wA ⟨rfl, k1, k2⟩; have HA1 := Aside0.mk (And.intro k1 k2); obtain ⟨r1, r2, r3, r4, r5, r6, rf, ro⟩ := k1.cells; clear k1 k2
            refine hK.out _ _ ?_ (fun hHeld => ?_)
            · (try dsimp only); (first | assumption | (go_split_ands; assumption) | (refine ⟨?_, ?_, ?_⟩ <;> assumption) | go_keep)
            clear hK K
            (try simp only [Act.put, List.setIfInBounds_toArray, List.set_cons_zero, List.set_cons_succ, List.getElem_toArray, List.getElem_cons_zero, List.getElem_cons_succ])
            refine' wpAnyH_take (i := 10) (v := _) rfl (by kernel_rfl) (by kernel_rfl) (by kernel_rfl) (fun _ _ _ h => h) ?hy140 (by assumption) ?rest140
            case hy140 => exact .inl ⟨by rfl, by intro w' hSw; (try dsimp only at hSw); go_simp; (try with_reducible rfl)⟩
            (try simp only [Act.put, List.setIfInBounds_toArray, List.set_cons_zero, List.set_cons_succ, List.getElem_toArray, List.getElem_cons_zero, List.getElem_cons_succ])
            refine' wpAnyH_take (i := 11) (v := _) rfl (by kernel_rfl) (by kernel_rfl) (by kernel_rfl) (fun _ _ _ h => h) ?hy141 (by assumption) ?rest141
            case hy141 => exact .inl ⟨by rfl, by intro w' hSw; (try dsimp only at hSw); go_simp; (try with_reducible rfl)⟩
            (try simp only [Act.put, List.setIfInBounds_toArray, List.set_cons_zero, List.set_cons_succ, List.getElem_toArray, List.getElem_cons_zero, List.getElem_cons_succ])
            refine' wpAnyH_take (i := 12) (v := _) rfl (by kernel_rfl) (by kernel_rfl) (by kernel_rfl) (fun _ _ _ h => h) ?hy142 (by assumption) ?rest142
            case hy142 => exact .inl ⟨by rfl, by intro w' hSw; (try dsimp only at hSw); go_simp; (try with_reducible rfl)⟩
            (try simp only [Act.put, List.setIfInBounds_toArray, List.set_cons_zero, List.set_cons_succ, List.getElem_toArray, List.getElem_cons_zero, List.getElem_cons_succ])
            refine' wpAnyH_take (i := 13) (v := _) rfl (by kernel_rfl) (by kernel_rfl) (by kernel_rfl) (fun _ _ _ h => h) ?hy143 (by assumption) ?rest143
            case hy143 => exact .inl ⟨by rfl, by intro w' hSw; (try dsimp only at hSw); go_simp; (try with_reducible rfl)⟩
            (try simp only [Act.put, List.setIfInBounds_toArray, List.set_cons_zero, List.set_cons_succ, List.getElem_toArray, List.getElem_cons_zero, List.getElem_cons_succ])
            refine' wpAnyH_take (i := 14) (v := _) rfl (by kernel_rfl) (by kernel_rfl) (by kernel_rfl) (fun _ _ _ h => h) ?hy144 (by assumption) ?rest144
            case hy144 => exact .inl ⟨by rfl, by intro w' hSw; (try dsimp only at hSw); go_simp; (try with_reducible rfl)⟩
            (try simp only [Act.put, List.setIfInBounds_toArray, List.set_cons_zero, List.set_cons_succ, List.getElem_toArray, List.getElem_cons_zero, List.getElem_cons_succ])
            refine' wpAnyH_take (i := 15) (v := _) rfl (by kernel_rfl) (by kernel_rfl) (by kernel_rfl) (fun _ _ _ h => h) ?hy145 (by assumption) ?rest145
            case hy145 => exact .inl ⟨by rfl, by intro w' hSw; (try dsimp only at hSw); go_simp; (try with_reducible rfl)⟩
            (try simp only [Act.put, List.setIfInBounds_toArray, List.set_cons_zero, List.set_cons_succ, List.getElem_toArray, List.getElem_cons_zero, List.getElem_cons_succ])
            refine' wpAnyH_take (i := 16) (v := _) rfl (by kernel_rfl) (by kernel_rfl) (by kernel_rfl) (fun _ _ _ h => h) ?hy146 (by assumption) ?rest146
            case hy146 => exact .inl ⟨by rfl, by intro w' hSw; (try dsimp only at hSw); go_simp; (try with_reducible rfl)⟩
            (try simp only [Act.put, List.setIfInBounds_toArray, List.set_cons_zero, List.set_cons_succ, List.getElem_toArray, List.getElem_cons_zero, List.getElem_cons_succ])
            refine' wpAnyH_take (i := 17) (v := _) rfl (by kernel_rfl) (by kernel_rfl) (by kernel_rfl) (fun _ _ _ h => h) (.inr ⟨by rfl, rfl⟩) (by assumption) ?rest147
            (try simp only [Act.put, List.setIfInBounds_toArray, List.set_cons_zero, List.set_cons_succ, List.getElem_toArray, List.getElem_cons_zero, List.getElem_cons_succ])
            refine' wpAnyH_take (i := 18) (v := _) rfl (by kernel_rfl) (by kernel_rfl) (by kernel_rfl) (fun _ _ _ h => h) (.inr ⟨by rfl, rfl⟩) (by assumption) ?rest148
            (try simp only [Act.put, List.setIfInBounds_toArray, List.set_cons_zero, List.set_cons_succ, List.getElem_toArray, List.getElem_cons_zero, List.getElem_cons_succ])
            refine' wpAnyH_take (i := 19) (v := _) rfl (by kernel_rfl) (by kernel_rfl) (by kernel_rfl) (fun _ _ _ h => h) (.inr ⟨by rfl, rfl⟩) (by assumption) ?rest149
            (try simp only [Act.put, List.setIfInBounds_toArray, List.set_cons_zero, List.set_cons_succ, List.getElem_toArray, List.getElem_cons_zero, List.getElem_cons_succ])
            refine' wpAnyH_take (i := 20) (v := _) rfl (by kernel_rfl) (by kernel_rfl) (by kernel_rfl) (fun _ _ _ h => h) (.inr ⟨by rfl, rfl⟩) (by assumption) ?rest150
            (try simp only [Act.put, List.setIfInBounds_toArray, List.set_cons_zero, List.set_cons_succ, List.getElem_toArray, List.getElem_cons_zero, List.getElem_cons_succ])
            refine' wpAnyH_take (i := 21) (v := _) rfl (by kernel_rfl) (by kernel_rfl) (by kernel_rfl) (fun _ _ _ h => h) (.inr ⟨by rfl, rfl⟩) (by assumption) ?rest151
            (try simp only [Act.put, List.setIfInBounds_toArray, List.set_cons_zero, List.set_cons_succ, List.getElem_toArray, List.getElem_cons_zero, List.getElem_cons_succ])
            refine' wpAnyH_take (i := 22) (v := _) rfl (by kernel_rfl) (by kernel_rfl) (by kernel_rfl) (fun _ _ _ h => h) (.inr ⟨by rfl, rfl⟩) (by assumption) ?rest152
            (try simp only [Act.put, List.setIfInBounds_toArray, List.set_cons_zero, List.set_cons_succ, List.getElem_toArray, List.getElem_cons_zero, List.getElem_cons_succ])
            refine' wpAnyH_take (i := 23) (v := _) rfl (by kernel_rfl) (by kernel_rfl) (by kernel_rfl) (fun _ _ _ h => h) (.inr ⟨by rfl, rfl⟩) (by assumption) ?rest153
            (try simp only [Act.put, List.setIfInBounds_toArray, List.set_cons_zero, List.set_cons_succ, List.getElem_toArray, List.getElem_cons_zero, List.getElem_cons_succ])
            refine' wpAnyH_take (i := 24) (v := _) rfl (by kernel_rfl) (by kernel_rfl) (by kernel_rfl) (fun _ _ _ h => h) ?hy154 (by assumption) ?rest154
            case hy154 => exact .inl ⟨by rfl, by intro w' hSw; (try dsimp only at hSw); go_simp; (try with_reducible rfl)⟩
            (try simp only [Act.put, List.setIfInBounds_toArray, List.set_cons_zero, List.set_cons_succ, List.getElem_toArray, List.getElem_cons_zero, List.getElem_cons_succ])
            refine' wpAnyH_take (i := 25) (v := _) rfl (by kernel_rfl) (by kernel_rfl) (by kernel_rfl) (fun _ _ _ h => h) ?hy155 (by assumption) ?rest155
            case hy155 => exact .inl ⟨by rfl, by intro w' hSw; (try dsimp only at hSw); go_simp; (try with_reducible rfl)⟩
            (try simp only [Act.put, List.setIfInBounds_toArray, List.set_cons_zero, List.set_cons_succ, List.getElem_toArray, List.getElem_cons_zero, List.getElem_cons_succ])
            refine wpAnyH_done (by kernel_rfl) ?_ _
            obtain ⟨Ae, ce, z1, z2, hend⟩ := open_end (N := n + 50000000) rfl HA1.out.1 HA.out HA1.out.2 (by omega) (by omega)
            go_upto_region 13 with (fail)
            go_quiet (fail)
            go_wp2
            go_ret3
            first | (exact ⟨Lb, g, .slice Ae out.length ce, (⟨f, 0, nx, la⟩, out), rfl, (by have := HX.out; rw [HS0.out] at this; exact this), hend.1.drawn _, hend.2.1, hend.2.2⟩) | (exact ⟨Lb, g, .slice Ae out.length ce, rfl, ⟨f, 0, nx, la⟩, out, (by have := HX.out; rw [HS0.out] at this; exact this), hend.1.drawn _, hend.2.1, hend.2.2⟩)
        · have c1 : ∀ W, St w.heap.size bm w.heap.size Bo Bl Lb g L out n' W → Below w.heap.size w W → Calls Try.prog 46 #[.int .i64 L.file, .int .i64 L.at', .pointer (some ⟨w.heap.size, 0, none⟩), .pointer (some ⟨Bo, 0, none⟩), .pointer (some ⟨Bl, 0, none⟩)] W fun e w' => e = .returned (.bool true) ∧ St w.heap.size bm w.heap.size Bo Bl Lb g S1.1 S1.2 (n' + 1) w' ∧ Below w.heap.size w w' := fun W hS hB => by
            have := found_calls HM.out hB hS L.file L.at' f0 (by omega) a0 a1 hn1 hol
            rw [h1] at this
            exact this
          have HC1 := Aside0.mk c1
          have hst : stepP M (L, out) = some S1 := by unfold stepP; rw [h1]
          have HRn2 : Aside0 (∀ S', Runs M S1 S' → Runs M S0 S') := ⟨fun S' h => HRn.out _ (.go hst h)⟩
          have HB := Aside0.mk (step_some hst a0 a1)
          have HMS := Aside0.mk HW.out.1.meas
          clear c1 h1 hst
          go_upto_region 12 with (fail)
          refine wp_region_held_drew (S := (fun w' => w'.cell? ⟨Bl, 0, none⟩ = some (.pointer (some ⟨Lb, 0, none⟩)))) (by kernel_rfl) ?_ (fun hHeld => ?_)
          · (try dsimp only); (first | assumption | (go_split_ands; assumption) | (refine ⟨?_, ?_, ?_⟩ <;> assumption) | go_keep)
          refine' wpAnyH_take (i := 0) (v := _) rfl (by kernel_rfl) (by kernel_rfl) (by kernel_rfl) (fun _ _ _ h => h) ?hy156 (by assumption) ?rest156
          case hy156 => exact .inl ⟨by rfl, by intro w' hSw; (try dsimp only at hSw); go_simp; (try with_reducible rfl)⟩
          (try simp only [Act.put, List.setIfInBounds_toArray, List.set_cons_zero, List.set_cons_succ, List.getElem_toArray, List.getElem_cons_zero, List.getElem_cons_succ])
          refine' wpAnyH_take (i := 1) (v := _) rfl (by kernel_rfl) (by kernel_rfl) (by kernel_rfl) (fun _ _ _ h => h) ?hy157 (by assumption) ?rest157
          case hy157 => exact .inl ⟨by rfl, by intro w' hSw; (try dsimp only at hSw); go_simp; (try with_reducible rfl)⟩
          (try simp only [Act.put, List.setIfInBounds_toArray, List.set_cons_zero, List.set_cons_succ, List.getElem_toArray, List.getElem_cons_zero, List.getElem_cons_succ])
          refine' wpAnyH_take (i := 2) (v := _) rfl (by kernel_rfl) (by kernel_rfl) (by kernel_rfl) (fun _ _ _ h => h) ?hy158 (by assumption) ?rest158
          case hy158 => exact .inl ⟨by rfl, by intro w' hSw; (try dsimp only at hSw); go_simp; (try with_reducible rfl)⟩
          (try simp only [Act.put, List.setIfInBounds_toArray, List.set_cons_zero, List.set_cons_succ, List.getElem_toArray, List.getElem_cons_zero, List.getElem_cons_succ])
          refine' wpAnyH_take (i := 3) (v := _) rfl (by kernel_rfl) (by kernel_rfl) (by kernel_rfl) (fun _ _ _ h => h) ?hy159 (by assumption) ?rest159
          case hy159 => exact .inl ⟨by rfl, by intro w' hSw; (try dsimp only at hSw); go_simp; (try with_reducible rfl)⟩
          (try simp only [Act.put, List.setIfInBounds_toArray, List.set_cons_zero, List.set_cons_succ, List.getElem_toArray, List.getElem_cons_zero, List.getElem_cons_succ])
          refine' wpAnyH_take (i := 5) (v := _) rfl (by kernel_rfl) (by kernel_rfl) (by kernel_rfl) (fun _ _ _ h => h) ?hy160 (by assumption) ?rest160
          case hy160 => exact .inl ⟨by rfl, by intro w' hSw; (try dsimp only at hSw); go_simp; (try with_reducible rfl)⟩
          (try simp only [Act.put, List.setIfInBounds_toArray, List.set_cons_zero, List.set_cons_succ, List.getElem_toArray, List.getElem_cons_zero, List.getElem_cons_succ])
          refine' wpAnyH_take (i := 6) (v := _) rfl (by kernel_rfl) (by kernel_rfl) (by kernel_rfl) (fun _ _ _ h => h) ?hy161 (by assumption) ?rest161
          case hy161 => exact .inl ⟨by rfl, by intro w' hSw; (try dsimp only at hSw); go_simp; (try with_reducible rfl)⟩
          (try simp only [Act.put, List.setIfInBounds_toArray, List.set_cons_zero, List.set_cons_succ, List.getElem_toArray, List.getElem_cons_zero, List.getElem_cons_succ])
          refine' wpAnyH_take (i := 7) (v := _) rfl (by kernel_rfl) (by kernel_rfl) (by kernel_rfl) (fun _ _ _ h => h) ?hy162 (by assumption) ?rest162
          case hy162 => exact .inl ⟨by rfl, by intro w' hSw; (try dsimp only at hSw); go_simp; (try with_reducible rfl)⟩
          (try simp only [Act.put, List.setIfInBounds_toArray, List.set_cons_zero, List.set_cons_succ, List.getElem_toArray, List.getElem_cons_zero, List.getElem_cons_succ])
          refine wpAnyH_ready (rs := [4, 8]) (by kernel_rfl) (by simp) ?_
          refine AllReadyH.cons rfl (fun K hK => ?_) (AllReadyH.cons rfl (fun K hK => ?_) AllReadyH.nil)
          · go_simp
            refine hK.out _ _ ?_ (fun hHeld => ?_)
            · (try dsimp only); (first | assumption | (go_split_ands; assumption) | (refine ⟨?_, ?_, ?_⟩ <;> assumption) | go_keep)
            clear hK K
            (try simp only [Act.put, List.setIfInBounds_toArray, List.set_cons_zero, List.set_cons_succ, List.getElem_toArray, List.getElem_cons_zero, List.getElem_cons_succ])
            refine wpAnyH_ready (rs := [8]) (by kernel_rfl) (by simp) ?_
            refine AllReadyH.cons rfl (fun K hK => ?_) AllReadyH.nil
            go_simp
            refine hK.out _ _ ?_ (fun hHeld => ?_)
            · (try dsimp only); (first | assumption | (go_split_ands; assumption) | (refine ⟨?_, ?_, ?_⟩ <;> assumption) | go_keep)
            clear hK K
            (try simp only [Act.put, List.setIfInBounds_toArray, List.set_cons_zero, List.set_cons_succ, List.getElem_toArray, List.getElem_cons_zero, List.getElem_cons_succ])
            refine wpAnyH_ready (rs := [9]) (by kernel_rfl) (by simp) ?_
            refine AllReadyH.cons rfl (fun K hK => ?_) AllReadyH.nil
            go_simp
            go_at_call 46; refine (HC1.out _ (by first | exact HW.out.1.drew | exact HW.out.1) (by first | exact drew_below HW.out.2 | exact HW.out.2)).mono ?_; rintro e wA ⟨rfl, k1, k2⟩; have HA2 := Aside0.mk (And.intro k1 k2); obtain ⟨r1, r2, r3, r4, r5, r6, rf, ro⟩ := k1.cells; clear k1 k2
            refine hK.out _ _ ?_ (fun hHeld => ?_)
            · (try dsimp only); (first | assumption | (go_split_ands; assumption) | (refine ⟨?_, ?_, ?_⟩ <;> assumption) | go_keep)
            clear hK K
            (try simp only [Act.put, List.setIfInBounds_toArray, List.set_cons_zero, List.set_cons_succ, List.getElem_toArray, List.getElem_cons_zero, List.getElem_cons_succ])
            refine' wpAnyH_take (i := 10) (v := _) rfl (by kernel_rfl) (by kernel_rfl) (by kernel_rfl) (fun _ _ _ h => h) ?hy163 (by assumption) ?rest163
            case hy163 => exact .inl ⟨by rfl, by intro w' hSw; (try dsimp only at hSw); go_simp; (try with_reducible rfl)⟩
            (try simp only [Act.put, List.setIfInBounds_toArray, List.set_cons_zero, List.set_cons_succ, List.getElem_toArray, List.getElem_cons_zero, List.getElem_cons_succ])
            refine' wpAnyH_take (i := 11) (v := _) rfl (by kernel_rfl) (by kernel_rfl) (by kernel_rfl) (fun _ _ _ h => h) (.inr ⟨by rfl, rfl⟩) (by assumption) ?rest164
            (try simp only [Act.put, List.setIfInBounds_toArray, List.set_cons_zero, List.set_cons_succ, List.getElem_toArray, List.getElem_cons_zero, List.getElem_cons_succ])
            refine' wpAnyH_take (i := 12) (v := _) rfl (by kernel_rfl) (by kernel_rfl) (by kernel_rfl) (fun _ _ _ h => h) (.inr ⟨by rfl, rfl⟩) (by assumption) ?rest165
            (try simp only [Act.put, List.setIfInBounds_toArray, List.set_cons_zero, List.set_cons_succ, List.getElem_toArray, List.getElem_cons_zero, List.getElem_cons_succ])
            refine' wpAnyH_take (i := 13) (v := _) rfl (by kernel_rfl) (by kernel_rfl) (by kernel_rfl) (fun _ _ _ h => h) (.inr ⟨by rfl, rfl⟩) (by assumption) ?rest166
            (try simp only [Act.put, List.setIfInBounds_toArray, List.set_cons_zero, List.set_cons_succ, List.getElem_toArray, List.getElem_cons_zero, List.getElem_cons_succ])
            refine' wpAnyH_take (i := 14) (v := _) rfl (by kernel_rfl) (by kernel_rfl) (by kernel_rfl) (fun _ _ _ h => h) (.inr ⟨by rfl, rfl⟩) (by assumption) ?rest167
            (try simp only [Act.put, List.setIfInBounds_toArray, List.set_cons_zero, List.set_cons_succ, List.getElem_toArray, List.getElem_cons_zero, List.getElem_cons_succ])
            refine' wpAnyH_take (i := 15) (v := _) rfl (by kernel_rfl) (by kernel_rfl) (by kernel_rfl) (fun _ _ _ h => h) (.inr ⟨by rfl, rfl⟩) (by assumption) ?rest168
            (try simp only [Act.put, List.setIfInBounds_toArray, List.set_cons_zero, List.set_cons_succ, List.getElem_toArray, List.getElem_cons_zero, List.getElem_cons_succ])
            refine' wpAnyH_take (i := 16) (v := _) rfl (by kernel_rfl) (by kernel_rfl) (by kernel_rfl) (fun _ _ _ h => h) (.inr ⟨by rfl, rfl⟩) (by assumption) ?rest169
            (try simp only [Act.put, List.setIfInBounds_toArray, List.set_cons_zero, List.set_cons_succ, List.getElem_toArray, List.getElem_cons_zero, List.getElem_cons_succ])
            refine' wpAnyH_take (i := 17) (v := _) rfl (by kernel_rfl) (by kernel_rfl) (by kernel_rfl) (fun _ _ _ h => h) (.inr ⟨by rfl, rfl⟩) (by assumption) ?rest170
            (try simp only [Act.put, List.setIfInBounds_toArray, List.set_cons_zero, List.set_cons_succ, List.getElem_toArray, List.getElem_cons_zero, List.getElem_cons_succ])
            refine' wpAnyH_take (i := 18) (v := _) rfl (by kernel_rfl) (by kernel_rfl) (by kernel_rfl) (fun _ _ _ h => h) (.inr ⟨by rfl, rfl⟩) (by assumption) ?rest171
            (try simp only [Act.put, List.setIfInBounds_toArray, List.set_cons_zero, List.set_cons_succ, List.getElem_toArray, List.getElem_cons_zero, List.getElem_cons_succ])
            refine' wpAnyH_take (i := 19) (v := _) rfl (by kernel_rfl) (by kernel_rfl) (by kernel_rfl) (fun _ _ _ h => h) (.inr ⟨by rfl, rfl⟩) (by assumption) ?rest172
            (try simp only [Act.put, List.setIfInBounds_toArray, List.set_cons_zero, List.set_cons_succ, List.getElem_toArray, List.getElem_cons_zero, List.getElem_cons_succ])
            refine' wpAnyH_take (i := 20) (v := _) rfl (by kernel_rfl) (by kernel_rfl) (by kernel_rfl) (fun _ _ _ h => h) (.inr ⟨by rfl, rfl⟩) (by assumption) ?rest173
            (try simp only [Act.put, List.setIfInBounds_toArray, List.set_cons_zero, List.set_cons_succ, List.getElem_toArray, List.getElem_cons_zero, List.getElem_cons_succ])
            refine' wpAnyH_take (i := 21) (v := _) rfl (by kernel_rfl) (by kernel_rfl) (by kernel_rfl) (fun _ _ _ h => h) (.inr ⟨by rfl, rfl⟩) (by assumption) ?rest174
            (try simp only [Act.put, List.setIfInBounds_toArray, List.set_cons_zero, List.set_cons_succ, List.getElem_toArray, List.getElem_cons_zero, List.getElem_cons_succ])
            refine' wpAnyH_take (i := 22) (v := _) rfl (by kernel_rfl) (by kernel_rfl) (by kernel_rfl) (fun _ _ _ h => h) (.inr ⟨by rfl, rfl⟩) (by assumption) ?rest175
            (try simp only [Act.put, List.setIfInBounds_toArray, List.set_cons_zero, List.set_cons_succ, List.getElem_toArray, List.getElem_cons_zero, List.getElem_cons_succ])
            refine' wpAnyH_take (i := 23) (v := _) rfl (by kernel_rfl) (by kernel_rfl) (by kernel_rfl) (fun _ _ _ h => h) (.inr ⟨by rfl, rfl⟩) (by assumption) ?rest176
            (try simp only [Act.put, List.setIfInBounds_toArray, List.set_cons_zero, List.set_cons_succ, List.getElem_toArray, List.getElem_cons_zero, List.getElem_cons_succ])
            refine' wpAnyH_take (i := 24) (v := _) rfl (by kernel_rfl) (by kernel_rfl) (by kernel_rfl) (fun _ _ _ h => h) (.inr ⟨by rfl, rfl⟩) (by assumption) ?rest177
            (try simp only [Act.put, List.setIfInBounds_toArray, List.set_cons_zero, List.set_cons_succ, List.getElem_toArray, List.getElem_cons_zero, List.getElem_cons_succ])
            refine' wpAnyH_take (i := 25) (v := _) rfl (by kernel_rfl) (by kernel_rfl) (by kernel_rfl) (fun _ _ _ h => h) ?hy178 (by assumption) ?rest178
            case hy178 => exact .inl ⟨by rfl, by intro w' hSw; (try dsimp only at hSw); go_simp; (try with_reducible rfl)⟩
            (try simp only [Act.put, List.setIfInBounds_toArray, List.set_cons_zero, List.set_cons_succ, List.getElem_toArray, List.getElem_cons_zero, List.getElem_cons_succ])
            refine wpAnyH_done (by kernel_rfl) ?_ _
            go_wp2
            go_roundw
            case rel => exact ⟨S1.1, S1.2, _, ⟨HA2.out⟩, HRn2, by have := HB.out; omega, by have := HB.out; omega, by have := HB.out; omega, by have := HB.out; omega, by have := HB.out; (try simp only [] at this); omega, by have := HB.out; (try simp only [] at this); omega⟩
            case measure =>
              rw [HA2.out.1.meas, HMS.out]
              have := HB.out
              (try simp only [] at this)
              omega
          · go_simp
            refine hK.out _ _ ?_ (fun hHeld => ?_)
            · (try dsimp only); (first | assumption | (go_split_ands; assumption) | (refine ⟨?_, ?_, ?_⟩ <;> assumption) | go_keep)
            clear hK K
            (try simp only [Act.put, List.setIfInBounds_toArray, List.set_cons_zero, List.set_cons_succ, List.getElem_toArray, List.getElem_cons_zero, List.getElem_cons_succ])
            refine wpAnyH_ready (rs := [4]) (by kernel_rfl) (by simp) ?_
            refine AllReadyH.cons rfl (fun K hK => ?_) AllReadyH.nil
            go_simp
            refine hK.out _ _ ?_ (fun hHeld => ?_)
            · (try dsimp only); (first | assumption | (go_split_ands; assumption) | (refine ⟨?_, ?_, ?_⟩ <;> assumption) | go_keep)
            clear hK K
            (try simp only [Act.put, List.setIfInBounds_toArray, List.set_cons_zero, List.set_cons_succ, List.getElem_toArray, List.getElem_cons_zero, List.getElem_cons_succ])
            refine wpAnyH_ready (rs := [9]) (by kernel_rfl) (by simp) ?_
            refine AllReadyH.cons rfl (fun K hK => ?_) AllReadyH.nil
            go_simp
            go_at_call 46; refine (HC1.out _ (by first | exact HW.out.1.drew | exact HW.out.1) (by first | exact drew_below HW.out.2 | exact HW.out.2)).mono ?_; rintro e wA ⟨rfl, k1, k2⟩; have HA2 := Aside0.mk (And.intro k1 k2); obtain ⟨r1, r2, r3, r4, r5, r6, rf, ro⟩ := k1.cells; clear k1 k2
            refine hK.out _ _ ?_ (fun hHeld => ?_)
            · (try dsimp only); (first | assumption | (go_split_ands; assumption) | (refine ⟨?_, ?_, ?_⟩ <;> assumption) | go_keep)
            clear hK K
            (try simp only [Act.put, List.setIfInBounds_toArray, List.set_cons_zero, List.set_cons_succ, List.getElem_toArray, List.getElem_cons_zero, List.getElem_cons_succ])
            refine' wpAnyH_take (i := 10) (v := _) rfl (by kernel_rfl) (by kernel_rfl) (by kernel_rfl) (fun _ _ _ h => h) ?hy179 (by assumption) ?rest179
            case hy179 => exact .inl ⟨by rfl, by intro w' hSw; (try dsimp only at hSw); go_simp; (try with_reducible rfl)⟩
            (try simp only [Act.put, List.setIfInBounds_toArray, List.set_cons_zero, List.set_cons_succ, List.getElem_toArray, List.getElem_cons_zero, List.getElem_cons_succ])
            refine' wpAnyH_take (i := 11) (v := _) rfl (by kernel_rfl) (by kernel_rfl) (by kernel_rfl) (fun _ _ _ h => h) (.inr ⟨by rfl, rfl⟩) (by assumption) ?rest180
            (try simp only [Act.put, List.setIfInBounds_toArray, List.set_cons_zero, List.set_cons_succ, List.getElem_toArray, List.getElem_cons_zero, List.getElem_cons_succ])
            refine' wpAnyH_take (i := 12) (v := _) rfl (by kernel_rfl) (by kernel_rfl) (by kernel_rfl) (fun _ _ _ h => h) (.inr ⟨by rfl, rfl⟩) (by assumption) ?rest181
            (try simp only [Act.put, List.setIfInBounds_toArray, List.set_cons_zero, List.set_cons_succ, List.getElem_toArray, List.getElem_cons_zero, List.getElem_cons_succ])
            refine' wpAnyH_take (i := 13) (v := _) rfl (by kernel_rfl) (by kernel_rfl) (by kernel_rfl) (fun _ _ _ h => h) (.inr ⟨by rfl, rfl⟩) (by assumption) ?rest182
            (try simp only [Act.put, List.setIfInBounds_toArray, List.set_cons_zero, List.set_cons_succ, List.getElem_toArray, List.getElem_cons_zero, List.getElem_cons_succ])
            refine' wpAnyH_take (i := 14) (v := _) rfl (by kernel_rfl) (by kernel_rfl) (by kernel_rfl) (fun _ _ _ h => h) (.inr ⟨by rfl, rfl⟩) (by assumption) ?rest183
            (try simp only [Act.put, List.setIfInBounds_toArray, List.set_cons_zero, List.set_cons_succ, List.getElem_toArray, List.getElem_cons_zero, List.getElem_cons_succ])
            refine' wpAnyH_take (i := 15) (v := _) rfl (by kernel_rfl) (by kernel_rfl) (by kernel_rfl) (fun _ _ _ h => h) (.inr ⟨by rfl, rfl⟩) (by assumption) ?rest184
            (try simp only [Act.put, List.setIfInBounds_toArray, List.set_cons_zero, List.set_cons_succ, List.getElem_toArray, List.getElem_cons_zero, List.getElem_cons_succ])
            refine' wpAnyH_take (i := 16) (v := _) rfl (by kernel_rfl) (by kernel_rfl) (by kernel_rfl) (fun _ _ _ h => h) (.inr ⟨by rfl, rfl⟩) (by assumption) ?rest185
            (try simp only [Act.put, List.setIfInBounds_toArray, List.set_cons_zero, List.set_cons_succ, List.getElem_toArray, List.getElem_cons_zero, List.getElem_cons_succ])
            refine' wpAnyH_take (i := 17) (v := _) rfl (by kernel_rfl) (by kernel_rfl) (by kernel_rfl) (fun _ _ _ h => h) (.inr ⟨by rfl, rfl⟩) (by assumption) ?rest186
            (try simp only [Act.put, List.setIfInBounds_toArray, List.set_cons_zero, List.set_cons_succ, List.getElem_toArray, List.getElem_cons_zero, List.getElem_cons_succ])
            refine' wpAnyH_take (i := 18) (v := _) rfl (by kernel_rfl) (by kernel_rfl) (by kernel_rfl) (fun _ _ _ h => h) (.inr ⟨by rfl, rfl⟩) (by assumption) ?rest187
            (try simp only [Act.put, List.setIfInBounds_toArray, List.set_cons_zero, List.set_cons_succ, List.getElem_toArray, List.getElem_cons_zero, List.getElem_cons_succ])
            refine' wpAnyH_take (i := 19) (v := _) rfl (by kernel_rfl) (by kernel_rfl) (by kernel_rfl) (fun _ _ _ h => h) (.inr ⟨by rfl, rfl⟩) (by assumption) ?rest188
            (try simp only [Act.put, List.setIfInBounds_toArray, List.set_cons_zero, List.set_cons_succ, List.getElem_toArray, List.getElem_cons_zero, List.getElem_cons_succ])
            refine' wpAnyH_take (i := 20) (v := _) rfl (by kernel_rfl) (by kernel_rfl) (by kernel_rfl) (fun _ _ _ h => h) (.inr ⟨by rfl, rfl⟩) (by assumption) ?rest189
            (try simp only [Act.put, List.setIfInBounds_toArray, List.set_cons_zero, List.set_cons_succ, List.getElem_toArray, List.getElem_cons_zero, List.getElem_cons_succ])
            refine' wpAnyH_take (i := 21) (v := _) rfl (by kernel_rfl) (by kernel_rfl) (by kernel_rfl) (fun _ _ _ h => h) (.inr ⟨by rfl, rfl⟩) (by assumption) ?rest190
            (try simp only [Act.put, List.setIfInBounds_toArray, List.set_cons_zero, List.set_cons_succ, List.getElem_toArray, List.getElem_cons_zero, List.getElem_cons_succ])
            refine' wpAnyH_take (i := 22) (v := _) rfl (by kernel_rfl) (by kernel_rfl) (by kernel_rfl) (fun _ _ _ h => h) (.inr ⟨by rfl, rfl⟩) (by assumption) ?rest191
            (try simp only [Act.put, List.setIfInBounds_toArray, List.set_cons_zero, List.set_cons_succ, List.getElem_toArray, List.getElem_cons_zero, List.getElem_cons_succ])
            refine' wpAnyH_take (i := 23) (v := _) rfl (by kernel_rfl) (by kernel_rfl) (by kernel_rfl) (fun _ _ _ h => h) (.inr ⟨by rfl, rfl⟩) (by assumption) ?rest192
            (try simp only [Act.put, List.setIfInBounds_toArray, List.set_cons_zero, List.set_cons_succ, List.getElem_toArray, List.getElem_cons_zero, List.getElem_cons_succ])
            refine' wpAnyH_take (i := 24) (v := _) rfl (by kernel_rfl) (by kernel_rfl) (by kernel_rfl) (fun _ _ _ h => h) (.inr ⟨by rfl, rfl⟩) (by assumption) ?rest193
            (try simp only [Act.put, List.setIfInBounds_toArray, List.set_cons_zero, List.set_cons_succ, List.getElem_toArray, List.getElem_cons_zero, List.getElem_cons_succ])
            refine' wpAnyH_take (i := 25) (v := _) rfl (by kernel_rfl) (by kernel_rfl) (by kernel_rfl) (fun _ _ _ h => h) ?hy194 (by assumption) ?rest194
            case hy194 => exact .inl ⟨by rfl, by intro w' hSw; (try dsimp only at hSw); go_simp; (try with_reducible rfl)⟩
            (try simp only [Act.put, List.setIfInBounds_toArray, List.set_cons_zero, List.set_cons_succ, List.getElem_toArray, List.getElem_cons_zero, List.getElem_cons_succ])
            refine wpAnyH_done (by kernel_rfl) ?_ _
            go_wp2
            go_roundw
            case rel => exact ⟨S1.1, S1.2, _, ⟨HA2.out⟩, HRn2, by have := HB.out; omega, by have := HB.out; omega, by have := HB.out; omega, by have := HB.out; omega, by have := HB.out; (try simp only [] at this); omega, by have := HB.out; (try simp only [] at this); omega⟩
            case measure =>
              rw [HA2.out.1.meas, HMS.out]
              have := HB.out
              (try simp only [] at this)
              omega
end Go.Proofs.Ytdjcaogffppdhaa.Log
