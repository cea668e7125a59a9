/- The wire's numbers, texts and truths, walked: written and read. -/
import Derived.Test.YtgdoodeibcfcjaaGreatCWire
import Derived.Deep.RegionHeld3
import Derived.Deep.RegionWith
import Derived.Deep.QuietTactic
import Derived.BigQuiet
import Derived.Deep.DeepCutAuto
import Derived.Deep.CutBlock
set_option linter.unusedVariables false
set_option linter.unusedSimpArgs false
namespace Go.Proofs.YtgdoodeibcfcjaaGreat.Wire
open Go.RowKit Go.Proofs.YtgdoodeibcfcjaaGreat.NumsPure Go.Proofs.YtgdoodeibcfcjaaGreat.CPure Go.Proofs.YtgdoodeibcfcjaaGreat.Own
open Go.Proofs.YtgdoodeibcfcjaaGreat.Put (digits digits_lt digits_ge)
open Go.Proofs.YtgdoodeibcfcjaaGreat.BldS (Keeps)

theorem below_from {wA wB : World} {o : Obj} (h : Below (wA.alloc o).heap.size (wA.alloc o) wB) : Below wA.heap.size wA wB :=
  ((Below.refl _ wA).alloc (Nat.le_refl _) o).trans (h.mono (by simp))
def ptr (xb j : Nat) : Value := .pointer (some ⟨xb, j, none⟩)
theorem Rw.cells {wb : Nat} {s : Rd} {w : World} (h : Rw wb s w) : w.cell? ⟨wb, 0, none⟩ = some (.pointer none) ∧ w.cell? ⟨wb, 1, none⟩ = some (.string ⟨s.D.toArray⟩) ∧ w.cell? ⟨wb, 2, none⟩ = some (.bool s.bad) ∧ ∀ j, w.frozen? ⟨wb, j, none⟩ = false := ⟨Cs.cell h 0, Cs.cell h 1, Cs.cell h 2, fun j => Cs.frozen h j⟩
theorem Rw.below {wb : Nat} {s : Rd} {w w' : World} (h : Rw wb s w) (k : Below w.heap.size w w') : Rw wb s w' := Cs.keep h (k.block wb (Cs.lt h))
theorem Rw.data {wb : Nat} {s : Rd} {w : World} (h : Rw wb s w) (D : List UInt8) : Rw wb ⟨D, s.bad⟩ (w.setCell ⟨wb, 1, none⟩ (.string ⟨D.toArray⟩)) := Cs.set h 1 _
theorem Rw.isBad {wb : Nat} {s : Rd} {w : World} (h : Rw wb s w) : Rw wb s.fail (w.setCell ⟨wb, 2, none⟩ (.bool true)) := Cs.set h 2 _
theorem Wr.out {B wb bb : Nat} {bs : List UInt8} {w : World} (h : Wr B wb bb bs w) : w.cell? ⟨wb, 0, none⟩ = some (.pointer (some ⟨bb, 0, none⟩)) := Cs.cell h.hw 0
set_option maxHeartbeats 4000000 in
set_option maxRecDepth 100000 in
theorem take_r {wb : Nat} {s : Rd} {w : World} (h : Rw wb s w) (hl : s.D.length ≤ 1000000000000) :
    Calls Tryz.prog 95 #[.pointer (some ⟨wb, 0, none⟩)] w fun e w' => e = .returned (.int .i64 ((takeN s).1 : Int)) ∧ Rw wb (takeN s).2 w' ∧ Fr (fun i => i = wb) w w' := by
  have H := Aside0.mk h
  obtain ⟨c0, c1, c2, cf⟩ := h.cells
  clear h
  have ct := take_any s.D hl
  obtain ⟨D, bad⟩ := s
  simp only at c1 c2 ct
  obtain ⟨R, hR⟩ : ∃ R, takeN ⟨D, bad⟩ = R := ⟨_, rfl⟩
  unfold takeN at hR
  simp only at hR
  cases hT : T true 9 D with
  | none =>
    rw [hT] at ct hR
    simp only [takeA] at ct hR
    have e : R = (0, ⟨D, true⟩) := by
      cases bad
      · simp only [Bool.false_eq_true, if_false] at hR
        exact hR.symm
      · simp only [if_true] at hR
        exact hR.symm
    have HR : Aside0 (takeN ⟨D, bad⟩ = (0, ⟨D, true⟩)) := ⟨by unfold takeN; simp only; rw [hT]; cases bad <;> rfl⟩
    clear hR hT e R
    cases bad
    all_goals
      go_enter Tryz.func95, Tryz.ntmps95
      go_wp2_with (go_at_call 102; refine (ct _).mono ?_; rintro e wA ⟨rfl, hk⟩; have HA := Aside0.mk (H.out.below hk); have HK := Aside0.mk hk; clear hk; obtain ⟨d0, d1, d2, df⟩ := HA.out.cells)
      go_ret
      rw [HR.out]
      exact ⟨rfl, HA.out.isBad, (Fr.of_below HK.out).set _ _ (.inl rfl)⟩
  | some p =>
    obtain ⟨n, r⟩ := p
    rw [hT] at ct
    simp only [takeA] at ct
    cases bad
    · have HR : Aside0 (takeN ⟨D, false⟩ = (n, ⟨r, false⟩)) := ⟨by unfold takeN; simp only; rw [hT]; rfl⟩
      clear hR hT R
      go_enter Tryz.func95, Tryz.ntmps95
      go_wp2_with (go_at_call 102; refine (ct _).mono ?_; rintro e wA ⟨rfl, hk⟩; have HA := Aside0.mk (H.out.below hk); have HK := Aside0.mk hk; clear hk; obtain ⟨d0, d1, d2, df⟩ := HA.out.cells)
      go_ret
      rw [HR.out]
      exact ⟨rfl, HA.out.data r, (Fr.of_below HK.out).set _ _ (.inl rfl)⟩
    · have HR : Aside0 (takeN ⟨D, true⟩ = (0, ⟨D, true⟩)) := ⟨by unfold takeN; rfl⟩
      clear hR hT R
      go_enter Tryz.func95, Tryz.ntmps95
      go_wp2_with (go_at_call 102; refine (ct _).mono ?_; rintro e wA ⟨rfl, hk⟩; have HA := Aside0.mk (H.out.below hk); have HK := Aside0.mk hk; clear hk; obtain ⟨d0, d1, d2, df⟩ := HA.out.cells)
      go_ret
      rw [HR.out]
      exact ⟨rfl, HA.out.isBad, (Fr.of_below HK.out).set _ _ (.inl rfl)⟩
theorem encAt_one (l : Sc) (k : K) (j : Nat) (vs : List Value) (v : Value) (h : vs[j]? = some v) : encAt (l ++ [(k, j)]) vs = encAt l vs ++ encV v := by
  rw [encAt_append]
  simp [encAt, List.getD_eq_getElem?_getD, h]
theorem encAt_le (a b : Sc) (vs : List Value) : (encAt a vs).length ≤ (encAt (a ++ b) vs).length := by rw [encAt_append, List.length_append]; omega
theorem at_split (k : K) (js : List Nat) (i : Nat) : at_ k js = at_ k (js.take i) ++ at_ k (js.drop i) := by unfold at_; rw [← List.map_append, List.take_append_drop]
/-- What a writing call does: it writes, and nothing else turns. -/
def Writ (B wb bb : Nat) (bs : List UInt8) (w : World) (e : Ending) (w' : World) : Prop := e = .returned (.tuple #[]) ∧ Wr B wb bb bs w' ∧ Wk B bb w w'
def Redd (wb xb : Nat) (T : TypeId) (p : Rd × List Value) (w : World) (e : Ending) (w' : World) : Prop := e = .returned (.tuple #[]) ∧ Rw wb p.1 w' ∧ Cs xb T p.2 w' ∧ Fr (fun i => i = wb ∨ i = xb) w w'
set_option maxHeartbeats 8000000 in
set_option maxRecDepth 100000 in
theorem nums_w {B wb bb g xb : Nat} {bs : List UInt8} {js : List Nat} {T : TypeId} {vs : List Value} {w : World} (h : Wr B wb bb bs w) (hp : Cs g 144 (js.map (ptr xb)) w) (hx : Cs xb T vs w) (hT : T ≠ 5) (hT2 : T ≠ 108)
    (hk : OkAt (at_ .n js) vs) (hl : bs.length + (encAt (at_ .n js) vs).length ≤ 140737488355328) (hjs : js.length ≤ 1000) :
    Calls Tryz.prog 59 #[.pointer (some ⟨wb, 0, none⟩), .slice (some ⟨g, 0, none⟩) js.length js.length] w (Writ B wb bb (bs ++ encAt (at_ .n js) vs) w) := by
  have hgb : g ≠ bb := h.bbT hp (by decide)
  have hxb : xb ≠ bb := h.bbT hx hT2
  obtain ⟨n, hn⟩ : ∃ n, n = js.length := ⟨_, rfl⟩
  rw [← hn]
  have hn1 : n ≤ 1000 := by omega
  have HN := Aside0.mk hn
  have H := Aside0.mk h
  have HP := Aside0.mk hp
  have HX := Aside0.mk hx
  have HT := Aside0.mk (And.intro hT hT2)
  have HK := Aside0.mk hk
  have HL := Aside0.mk hl
  clear h hp hx hT hT2 hk hl hn hjs
  go_enter Tryz.func59, Tryz.ntmps59
  go_wp2_with (fail)
  go_loopw [8] (fun v8 wr => ∃ i : Nat, i ≤ n ∧ v8 = .int .i64 i ∧ Aside0 (Wr B wb bb (bs ++ encAt (at_ .n (js.take i)) vs) wr ∧ Wk B bb w wr)) (fun v8 _ => n - (intOf v8).toNat)
  case atStart => exact ⟨0, by omega, rfl, ⟨by simpa [at_, encAt] using H.out, Wk.refl _ _ _⟩⟩
  case round =>
    obtain ⟨i, hi, rfl, HI⟩ := hrel
    by_cases hlt : i < n
    · have hjl : i < js.length := by have := HN.out; omega
      obtain ⟨j, hj⟩ : ∃ j, js[i]? = some j := ⟨_, List.getElem?_eq_getElem hjl⟩
      obtain ⟨v, hv, z, rfl⟩ := HK.out (K.n, j) (by unfold at_; exact List.mem_map.2 ⟨j, List.mem_of_getElem? hj, rfl⟩)
      have hpc : wr.cell? ⟨g, i, none⟩ = some (.pointer (some ⟨xb, j, none⟩)) := by rw [(HI.out.2.cs HP.out (by decide) hgb).cell, List.getElem?_map, hj]; rfl
      have hxc : wr.cell? ⟨xb, j, none⟩ = some (.int .i64 z) := by rw [(HI.out.2.cs HX.out HT.out.1 hxb).cell]; exact hv
      have hwc := HI.out.1.out
      have HE : Aside0 (encAt (at_ .n (js.take (i + 1))) vs = encAt (at_ .n (js.take i)) vs ++ digits (foldN z)) := ⟨by rw [at_take .n js i j hj, encAt_one _ _ _ _ _ hv]; rfl⟩
      have HLN : Aside0 ((bs ++ encAt (at_ .n (js.take i)) vs).length + (digits (foldN z)).length ≤ 140737488355328) := ⟨by
        have h1 := HL.out
        have h2 := encAt_le (at_ .n (js.take (i + 1))) (at_ .n (js.drop (i + 1))) vs
        rw [← at_split, HE.out] at h2
        rw [List.length_append] at h2 ⊢
        omega⟩
      clear hj hv
      go_upto_region 4 with (fail)
      go_region_held3 (fun w' => w'.cell? ⟨wb, 0, none⟩ = some (.pointer (some ⟨bb, 0, none⟩)) ∧ w'.cell? ⟨xb, j, none⟩ = some (.int .i64 z)) (first | (go_split_ands; assumption) | (refine ⟨?_, ?_⟩ <;> assumption) | go_keep) (first
        | (go_at_call 98; refine (fold_any z _).mono ?_; rintro e wA ⟨rfl, hk⟩; have hk' : Below wr.heap.size wr wA := ⟨hk.os, hk.tape, hk.output, hk.size, hk.block⟩; have HA : Aside0 (Wr B wb bb (bs ++ encAt (at_ .n (js.take i)) vs) wA ∧ Wk B bb w wA) := ⟨HI.out.1.below hk', HI.out.2.trans (Wk.of_below HI.out.1.le hk')⟩; clear hk hk'; have f0 := HA.out.1.out; have f1 : wA.cell? ⟨xb, j, none⟩ = some (.int .i64 z) := by rw [(HA.out.2.cs HX.out HT.out.1 hxb).cell, ← (HI.out.2.cs HX.out HT.out.1 hxb).cell]; exact hxc)
        | (go_at_call 94; refine (put_any (foldN z) (foldN_lt z) _ _ (by simp)).mono ?_; rintro e wB ⟨rfl, hk⟩; have hk' : Below wA.heap.size wA wB := below_from hk; have HB : Aside0 (Wr B wb bb (bs ++ encAt (at_ .n (js.take i)) vs) wB ∧ Wk B bb w wB) := ⟨HA.out.1.below hk', HA.out.2.trans (Wk.of_below HA.out.1.le hk')⟩; clear hk hk'; have g0 := HB.out.1.out; have g1 : wB.cell? ⟨xb, j, none⟩ = some (.int .i64 z) := by rw [(HB.out.2.cs HX.out HT.out.1 hxb).cell, ← (HI.out.2.cs HX.out HT.out.1 hxb).cell]; exact hxc)
        | (go_at_call 93; refine (HB.out.1.write (digits (foldN z)) HLN.out).mono ?_; rintro e wC ⟨⟨z', rfl⟩, hk1, hk2⟩; have HC : Aside0 (Wr B wb bb (bs ++ encAt (at_ .n (js.take i)) vs ++ digits (foldN z)) wC ∧ Wk B bb w wC) := ⟨hk1, HB.out.2.trans hk2⟩; clear hk1 hk2; have k0 := HC.out.1.out; have k1 : wC.cell? ⟨xb, j, none⟩ = some (.int .i64 z) := by rw [(HC.out.2.cs HX.out HT.out.1 hxb).cell, ← (HI.out.2.cs HX.out HT.out.1 hxb).cell]; exact hxc))
      all_goals
        go_wp2
        go_roundw
        case rel => exact ⟨i + 1, by omega, by go_num, ⟨by rw [HE.out, ← List.append_assoc]; exact HC.out⟩⟩
        case measure => simp [intOf]; omega
    · obtain rfl : i = n := by omega
      have HF : Aside0 (js.take i = js) := ⟨List.take_of_length_le (by have := HN.out; omega)⟩
      go_wp2
      go_end0
      refine ⟨rfl, ?_, HI.out.2⟩
      have := HI.out.1
      rw [HF.out] at this
      exact this
set_option maxHeartbeats 8000000 in
set_option maxRecDepth 100000 in
theorem nums_r {wb g xb : Nat} {s : Rd} {js : List Nat} {T : TypeId} {vs : List Value} {w : World} (h : Rw wb s w) (hp : Cs g 144 (js.map (ptr xb)) w) (hx : Cs xb T vs w) (hgw : g ≠ wb) (hgx : g ≠ xb) (hxw : xb ≠ wb)
    (hj : ∀ j ∈ js, j < vs.length) (hl : s.D.length ≤ 1000000000000) (hjs : js.length ≤ 1000) :
    Calls Tryz.prog 59 #[.pointer (some ⟨wb, 0, none⟩), .slice (some ⟨g, 0, none⟩) js.length js.length] w (Redd wb xb T (rdAt (at_ .n js) (s, vs)) w) := by
  obtain ⟨n, hn⟩ : ∃ n, n = js.length := ⟨_, rfl⟩
  rw [← hn]
  have hn1 : n ≤ 1000 := by omega
  have HN := Aside0.mk hn
  have H := Aside0.mk h
  have HP := Aside0.mk hp
  have HX := Aside0.mk hx
  have HJ := Aside0.mk hj
  have HL := Aside0.mk hl
  clear h hp hx hj hl hn hjs
  go_enter Tryz.func59, Tryz.ntmps59
  go_wp2_with (fail)
  go_loopw [8] (fun v8 wr => ∃ i : Nat, i ≤ n ∧ v8 = .int .i64 i ∧ Aside0 (Rw wb (rdAt (at_ .n (js.take i)) (s, vs)).1 wr ∧ Cs xb T (rdAt (at_ .n (js.take i)) (s, vs)).2 wr ∧ Fr (fun i => i = wb ∨ i = xb) w wr)) (fun v8 _ => n - (intOf v8).toNat)
  case atStart => exact ⟨0, by omega, rfl, ⟨H.out, HX.out, Fr.refl _ _⟩⟩
  case round =>
    obtain ⟨i, hi, rfl, HI⟩ := hrel
    by_cases hlt : i < n
    · have hjl : i < js.length := by have := HN.out; omega
      obtain ⟨j, hj⟩ : ∃ j, js[i]? = some j := ⟨_, List.getElem?_eq_getElem hjl⟩
      have hpc : wr.cell? ⟨g, i, none⟩ = some (.pointer (some ⟨xb, j, none⟩)) := by rw [(HP.out.keep (HI.out.2.2.block g HP.out.lt (by rintro (e | e); exact hgw e; exact hgx e))).cell, List.getElem?_map, hj]; rfl
      obtain ⟨hpl, hpl2⟩ := rdAt_len (at_ .n (js.take i)) (s, vs)
      have HE : Aside0 (rdAt (at_ .n (js.take (i + 1))) (s, vs) = rd1At (.n, j) (rdAt (at_ .n (js.take i)) (s, vs))) := ⟨by rw [at_take .n js i j hj, rdAt_append]; rfl⟩
      have HJL : Aside0 (j < vs.length) := ⟨HJ.out j (List.mem_of_getElem? hj)⟩
      obtain ⟨p, hpp⟩ : ∃ p, p = rdAt (at_ .n (js.take i)) (s, vs) := ⟨_, rfl⟩
      rw [← hpp] at HI hpl hpl2 HE
      obtain ⟨s1, vs1⟩ := p
      simp only at HI hpl hpl2
      have HJ2 : Aside0 (j < vs1.length) := ⟨by rw [hpl2]; exact HJL.out⟩
      have hwc := HI.out.1.cells.1
      have ctk := take_r HI.out.1 (Nat.le_trans hpl HL.out)
      have cun := unfold_any (takeN s1).1 (take_lt s1)
      obtain ⟨tn, htn⟩ : ∃ tn, tn = (takeN s1).1 := ⟨_, rfl⟩
      rw [← htn] at ctk cun
      have HT := Aside0.mk htn
      clear hpl hpl2 hpp hj htn
      go_wp2_with (first
        | (go_at_call 95; refine ctk.mono ?_; rintro e wA ⟨rfl, hk1, hk2⟩; have HA : Aside0 (Rw wb (takeN s1).2 wA ∧ Cs xb T vs1 wA ∧ Fr (fun i => i = wb ∨ i = xb) w wA) := ⟨hk1, HI.out.2.1.keep (hk2.block xb HI.out.2.1.lt hxw), HI.out.2.2.trans hk2 fun i hi => .inl (.inl hi)⟩; clear hk1 hk2)
        | (go_at_call 99; refine (cun _).mono ?_; rintro e wB ⟨rfl, hk⟩; have HB : Aside0 (Rw wb (takeN s1).2 wB ∧ Cs xb T vs1 wB ∧ Fr (fun i => i = wb ∨ i = xb) w wB) := ⟨HA.out.1.below hk, HA.out.2.1.keep (hk.block xb HA.out.2.1.lt), HA.out.2.2.trans (Fr.of_below hk) fun i hi => .inl hi⟩; clear hk; have fx : wB.frozen? ⟨xb, j, none⟩ = false := HB.out.2.1.frozen j; obtain ⟨old, ho⟩ : ∃ old, wB.cell? ⟨xb, j, none⟩ = some old := ⟨_, by rw [HB.out.2.1.cell]; exact List.getElem?_eq_getElem HJ2.out⟩))
      go_roundw
      case rel =>
        refine ⟨i + 1, by omega, by go_num, ⟨?_⟩⟩
        rw [HE.out]
        refine ⟨?_, ?_, HB.out.2.2.set _ _ (.inl (.inr rfl))⟩
        · exact Cs.other HB.out.1 _ _ hxw
        · have := HB.out.2.1.set j (.int .i64 (unfoldN tn))
          rw [HT.out] at this ⊢
          exact this
      case measure => simp [intOf]; omega
    · obtain rfl : i = n := by omega
      have HF : Aside0 (js.take i = js) := ⟨List.take_of_length_le (by have := HN.out; omega)⟩
      go_wp2
      go_end0
      have := HI.out
      rw [HF.out] at this
      exact ⟨rfl, this⟩
theorem set_same (vs : List Value) (j : Nat) : vs.set j (vs.getD j undefV) = vs := by
  apply List.ext_getElem?
  intro i
  rw [List.getElem?_set]
  split
  · rename_i h
    subst h
    split
    · rename_i h; rw [List.getD_eq_getElem?_getD, List.getElem?_eq_getElem h]; rfl
    · rename_i h; rw [List.getElem?_eq_none (by omega)]
  · rfl
theorem bad_t (js : List Nat) (s : Rd) (vs : List Value) (h : s.bad = true) : rdAt (at_ .t js) (s, vs) = (s, vs) := by
  induction js with
  | nil => rfl
  | cons j js ih =>
    have e : rd1At (.t, j) (s, vs) = (s, vs) := by
      unfold rd1At
      simp only [rd1, rdT, h, if_true]
      rw [set_same]
    show rdAt (at_ .t js) (rd1At (.t, j) (s, vs)) = _
    rw [e]; exact ih
theorem bad_b (js : List Nat) (s : Rd) (vs : List Value) (h : s.bad = true) : rdAt (at_ .b js) (s, vs) = (s, vs) := by
  induction js with
  | nil => rfl
  | cons j js ih =>
    have e : rd1At (.b, j) (s, vs) = (s, vs) := by
      unfold rd1At
      simp only [rd1, rdB, h, if_true]
      rw [set_same]
    show rdAt (at_ .b js) (rd1At (.b, j) (s, vs)) = _
    rw [e]; exact ih
theorem at_rest (k : K) (js : List Nat) (i j : Nat) (h : js[i]? = some j) (p : Rd × List Value) : rdAt (at_ k js) p = rdAt (at_ k (js.drop (i + 1))) (rd1At (k, j) (rdAt (at_ k (js.take i)) p)) := by
  rw [at_split k js (i + 1), rdAt_append, at_take k js i j h, rdAt_append]
  rfl
/-- What a text's reading finds. -/
def okT (s : Rd) : Option (List UInt8 × List UInt8) := if s.bad then none else match T true 9 s.D with
  | none => none
  | some (n, r) => if n ≤ r.length then some (r.take n, r.drop n) else none
theorem rdT_ok {s : Rd} {a b : List UInt8} (h : okT s = some (a, b)) (v : Value) : rdT s v = (⟨b, false⟩, .string ⟨a.toArray⟩) := by
  unfold okT at h
  unfold rdT
  split at h
  · cases h
  · rename_i hb
    rw [if_neg hb]
    split at h
    · cases h
    · rename_i n r hT
      split at h
      · rename_i hn
        cases h
        rw [hT]
        simp only
        rw [if_pos hn]
      · cases h
theorem rdT_no {s : Rd} (h : okT s = none) (v : Value) : rdT s v = (s.fail, v) := by
  unfold okT at h
  unfold rdT
  split at h
  · rename_i hb
    rw [if_pos hb]
    unfold Rd.fail
    rw [← hb]
  · rename_i hb
    rw [if_neg hb]
    split at h
    · rename_i hT; rw [hT]
    · rename_i n r hT
      split at h
      · cases h
      · rename_i hn
        rw [hT]
        simp only
        rw [if_neg hn]
theorem textA_ok {s : Rd} {a b : List UInt8} (h : okT s = some (a, b)) : s.bad = false ∧ textA (T true 9 s.D) = (⟨a.toArray⟩, ⟨b.toArray⟩, 0) := by
  unfold okT at h
  split at h
  · cases h
  · rename_i hb
    refine ⟨by simpa using hb, ?_⟩
    split at h
    · cases h
    · rename_i n r hT
      split at h
      · rename_i hn
        cases h
        rw [hT]
        simp only [textA]
        rw [if_neg (by omega)]
      · cases h
theorem textA_no {s : Rd} (h : okT s = none) : s.bad = true ∨ (s.bad = false ∧ textA (T true 9 s.D) = (⟨#[]⟩, ⟨#[]⟩, 44)) := by
  unfold okT at h
  split at h
  · rename_i hb; exact .inl hb
  · rename_i hb
    refine .inr ⟨by simpa using hb, ?_⟩
    split at h
    · rename_i hT; rw [hT]; rfl
    · rename_i n r hT
      split at h
      · cases h
      · rename_i hn
        rw [hT]
        simp only [textA]
        rw [if_pos (by omega)]
set_option maxHeartbeats 8000000 in
set_option maxRecDepth 100000 in
theorem texts_w {B wb bb g xb : Nat} {bs : List UInt8} {js : List Nat} {T : TypeId} {vs : List Value} {w : World} (h : Wr B wb bb bs w) (hp : Cs g 142 (js.map (ptr xb)) w) (hx : Cs xb T vs w) (hT : T ≠ 5) (hT2 : T ≠ 108)
    (hk : OkAt (at_ .t js) vs) (hl : bs.length + (encAt (at_ .t js) vs).length ≤ 140737488355328) (hjs : js.length ≤ 1000) :
    Calls Tryz.prog 58 #[.pointer (some ⟨wb, 0, none⟩), .slice (some ⟨g, 0, none⟩) js.length js.length] w (Writ B wb bb (bs ++ encAt (at_ .t js) vs) w) := by
  have hgb : g ≠ bb := h.bbT hp (by decide)
  have hxb : xb ≠ bb := h.bbT hx hT2
  obtain ⟨n, hn⟩ : ∃ n, n = js.length := ⟨_, rfl⟩
  rw [← hn]
  have hn1 : n ≤ 1000 := by omega
  have HN := Aside0.mk hn
  have H := Aside0.mk h
  have HP := Aside0.mk hp
  have HX := Aside0.mk hx
  have HT := Aside0.mk (And.intro hT hT2)
  have HK := Aside0.mk hk
  have HL := Aside0.mk hl
  clear h hp hx hT hT2 hk hl hn hjs
  go_enter Tryz.func58, Tryz.ntmps58
  go_wp2_with (fail)
  go_loopw [11] (fun v11 wr => ∃ i : Nat, i ≤ n ∧ v11 = .int .i64 i ∧ Aside0 (Wr B wb bb (bs ++ encAt (at_ .t (js.take i)) vs) wr ∧ Wk B bb w wr)) (fun v11 _ => n - (intOf v11).toNat)
  case atStart => exact ⟨0, by omega, rfl, ⟨by simpa [at_, encAt] using H.out, Wk.refl _ _ _⟩⟩
  case round =>
    obtain ⟨i, hi, rfl, HI⟩ := hrel
    by_cases hlt : i < n
    · have hjl : i < js.length := by have := HN.out; omega
      obtain ⟨j, hj⟩ : ∃ j, js[i]? = some j := ⟨_, List.getElem?_eq_getElem hjl⟩
      obtain ⟨v, hv, z, rfl⟩ := HK.out (K.t, j) (by unfold at_; exact List.mem_map.2 ⟨j, List.mem_of_getElem? hj, rfl⟩)
      have hpc : wr.cell? ⟨g, i, none⟩ = some (.pointer (some ⟨xb, j, none⟩)) := by rw [(HI.out.2.cs HP.out (by decide) hgb).cell, List.getElem?_map, hj]; rfl
      have hxc : wr.cell? ⟨xb, j, none⟩ = some (.string z) := by rw [(HI.out.2.cs HX.out HT.out.1 hxb).cell]; exact hv
      have hwc := HI.out.1.out
      have HE : Aside0 (encAt (at_ .t (js.take (i + 1))) vs = encAt (at_ .t (js.take i)) vs ++ textB z) := ⟨by rw [at_take .t js i j hj, encAt_one _ _ _ _ _ hv]; rfl⟩
      have HLN : Aside0 ((bs ++ encAt (at_ .t (js.take i)) vs).length + (textB z).length ≤ 140737488355328) := ⟨by
        have h1 := HL.out
        have h2 := encAt_le (at_ .t (js.take (i + 1))) (at_ .t (js.drop (i + 1))) vs
        rw [← at_split, HE.out] at h2
        rw [List.length_append] at h2 ⊢
        omega⟩
      have HZ : Aside0 (z.size ≤ 140737488355328) := ⟨by
        have := HLN.out
        have e : (textB z).length = (digits z.size).length + z.size := by unfold textB; rw [List.length_append, size_len]
        omega⟩
      clear hj hv
      go_upto_region 4 with (fail)
      go_region_held3 (fun w' => w'.cell? ⟨wb, 0, none⟩ = some (.pointer (some ⟨bb, 0, none⟩)) ∧ w'.cell? ⟨xb, j, none⟩ = some (.string z)) (first | (go_split_ands; assumption) | (refine ⟨?_, ?_⟩ <;> assumption) | go_keep) (first
        | (go_at_call 96; refine (text_any z HZ.out _).mono ?_; rintro e wB ⟨rfl, hk⟩; have hk' : Below wr.heap.size wr wB := ⟨hk.os, hk.tape, hk.output, hk.size, hk.block⟩; have HB : Aside0 (Wr B wb bb (bs ++ encAt (at_ .t (js.take i)) vs) wB ∧ Wk B bb w wB) := ⟨HI.out.1.below hk', HI.out.2.trans (Wk.of_below HI.out.1.le hk')⟩; clear hk hk'; have g0 := HB.out.1.out; have g1 : wB.cell? ⟨xb, j, none⟩ = some (.string z) := by rw [(HB.out.2.cs HX.out HT.out.1 hxb).cell, ← (HI.out.2.cs HX.out HT.out.1 hxb).cell]; exact hxc)
        | (go_at_call 93; refine (HB.out.1.write (textB z) HLN.out).mono ?_; rintro e wC ⟨⟨z', rfl⟩, hk1, hk2⟩; have HC : Aside0 (Wr B wb bb (bs ++ encAt (at_ .t (js.take i)) vs ++ textB z) wC ∧ Wk B bb w wC) := ⟨hk1, HB.out.2.trans hk2⟩; clear hk1 hk2; have k0 := HC.out.1.out; have k1 : wC.cell? ⟨xb, j, none⟩ = some (.string z) := by rw [(HC.out.2.cs HX.out HT.out.1 hxb).cell, ← (HI.out.2.cs HX.out HT.out.1 hxb).cell]; exact hxc))
      all_goals
        go_wp2
        go_roundw
        case rel => exact ⟨i + 1, by omega, by go_num, ⟨by rw [HE.out, ← List.append_assoc]; exact HC.out⟩⟩
        case measure => simp [intOf]; omega
    · obtain rfl : i = n := by omega
      have HF : Aside0 (js.take i = js) := ⟨List.take_of_length_le (by have := HN.out; omega)⟩
      go_wp2
      go_end0
      refine ⟨rfl, ?_, HI.out.2⟩
      have := HI.out.1
      rw [HF.out] at this
      exact this
set_option maxHeartbeats 8000000 in
set_option maxRecDepth 100000 in
theorem texts_r {wb g xb : Nat} {s : Rd} {js : List Nat} {T : TypeId} {vs : List Value} {w : World} (h : Rw wb s w) (hp : Cs g 142 (js.map (ptr xb)) w) (hx : Cs xb T vs w) (hgw : g ≠ wb) (hgx : g ≠ xb) (hxw : xb ≠ wb)
    (hj : ∀ j ∈ js, j < vs.length) (hl : s.D.length ≤ 1000000000000) (hjs : js.length ≤ 1000) :
    Calls Tryz.prog 58 #[.pointer (some ⟨wb, 0, none⟩), .slice (some ⟨g, 0, none⟩) js.length js.length] w (Redd wb xb T (rdAt (at_ .t js) (s, vs)) w) := by
  obtain ⟨n, hn⟩ : ∃ n, n = js.length := ⟨_, rfl⟩
  rw [← hn]
  have hn1 : n ≤ 1000 := by omega
  have HN := Aside0.mk hn
  have H := Aside0.mk h
  have HP := Aside0.mk hp
  have HX := Aside0.mk hx
  have HJ := Aside0.mk hj
  have HL := Aside0.mk hl
  clear h hp hx hj hl hn hjs
  go_enter Tryz.func58, Tryz.ntmps58
  go_wp2_with (fail)
  go_loopw [11] (fun v11 wr => ∃ i : Nat, i ≤ n ∧ v11 = .int .i64 i ∧ Aside0 (Rw wb (rdAt (at_ .t (js.take i)) (s, vs)).1 wr ∧ Cs xb T (rdAt (at_ .t (js.take i)) (s, vs)).2 wr ∧ Fr (fun i => i = wb ∨ i = xb) w wr)) (fun v11 _ => n - (intOf v11).toNat)
  case atStart => exact ⟨0, by omega, rfl, ⟨H.out, HX.out, Fr.refl _ _⟩⟩
  case round =>
    obtain ⟨i, hi, rfl, HI⟩ := hrel
    by_cases hlt : i < n
    · have hjl : i < js.length := by have := HN.out; omega
      obtain ⟨j, hj⟩ : ∃ j, js[i]? = some j := ⟨_, List.getElem?_eq_getElem hjl⟩
      have hpc : wr.cell? ⟨g, i, none⟩ = some (.pointer (some ⟨xb, j, none⟩)) := by rw [(HP.out.keep (HI.out.2.2.block g HP.out.lt (by rintro (e | e); exact hgw e; exact hgx e))).cell, List.getElem?_map, hj]; rfl
      obtain ⟨hpl, hpl2⟩ := rdAt_len (at_ .t (js.take i)) (s, vs)
      have HE : Aside0 (rdAt (at_ .t (js.take (i + 1))) (s, vs) = rd1At (.t, j) (rdAt (at_ .t (js.take i)) (s, vs))) := ⟨by rw [at_take .t js i j hj, rdAt_append]; rfl⟩
      have HER : Aside0 (rdAt (at_ .t js) (s, vs) = rdAt (at_ .t (js.drop (i + 1))) (rd1At (.t, j) (rdAt (at_ .t (js.take i)) (s, vs)))) := ⟨at_rest .t js i j hj (s, vs)⟩
      have HJL : Aside0 (j < vs.length) := ⟨HJ.out j (List.mem_of_getElem? hj)⟩
      obtain ⟨p, hpp⟩ : ∃ p, p = rdAt (at_ .t (js.take i)) (s, vs) := ⟨_, rfl⟩
      rw [← hpp] at HI hpl hpl2 HE HER
      obtain ⟨s1, vs1⟩ := p
      simp only at HI hpl hpl2
      have HJ2 : Aside0 (j < vs1.length) := ⟨by rw [hpl2]; exact HJL.out⟩
      obtain ⟨hwc, d1, d2, df⟩ := HI.out.1.cells
      have ctk := takeText_any s1.D (Nat.le_trans hpl HL.out)
      cases hok : okT s1 with
      | some ab =>
        obtain ⟨a, b⟩ := ab
        obtain ⟨hb, hA⟩ := textA_ok hok
        rw [hb] at d2
        rw [hA] at ctk
        have HR : Aside0 (rd1At (.t, j) (s1, vs1) = (⟨b, false⟩, vs1.set j (.string ⟨a.toArray⟩))) := ⟨by unfold rd1At; simp only [rd1, rdT_ok hok]⟩
        have HBD := Aside0.mk hb
        clear hpl hpl2 hpp hj hok hb hA HER
        obtain ⟨D1, hD1⟩ : ∃ D1 : ByteArray, D1 = ⟨s1.D.toArray⟩ := ⟨_, rfl⟩
        rw [← hD1] at ctk d1
        clear hD1
        go_wp2_with (go_at_call 97; refine (ctk _).mono ?_; rintro e wA ⟨rfl, hk⟩; have HA : Aside0 (Rw wb s1 wA ∧ Cs xb T vs1 wA ∧ Fr (fun i => i = wb ∨ i = xb) w wA) := ⟨HI.out.1.below hk, HI.out.2.1.keep (hk.block xb HI.out.2.1.lt), HI.out.2.2.trans (Fr.of_below hk) fun i hi => .inl hi⟩; clear hk; obtain ⟨k0, k1, k2, kf⟩ := HA.out.1.cells; rw [HBD.out] at k2; have fx : wA.frozen? ⟨xb, j, none⟩ = false := HA.out.2.1.frozen j; obtain ⟨old, ho⟩ : ∃ old, wA.cell? ⟨xb, j, none⟩ = some old := ⟨_, by rw [HA.out.2.1.cell]; exact List.getElem?_eq_getElem HJ2.out⟩)
        go_roundw
        case rel =>
          refine ⟨i + 1, by omega, by go_num, ⟨?_⟩⟩
          rw [HE.out, HR.out]
          refine ⟨?_, ?_, (HA.out.2.2.set _ _ (.inl (.inr rfl))).set _ _ (.inl (.inl rfl))⟩
          · have := Rw.data (Cs.other HA.out.1 ⟨xb, j, none⟩ (.string ⟨a.toArray⟩) hxw) b
            rw [HBD.out] at this
            exact this
          · exact Cs.other (HA.out.2.1.set j (.string ⟨a.toArray⟩)) _ _ hxw.symm
        case measure => simp [intOf]; omega
      | none =>
        have HR : Aside0 (rd1At (.t, j) (s1, vs1) = (s1.fail, vs1)) := ⟨by
          unfold rd1At
          simp only [rd1, rdT_no hok]
          rw [set_same]⟩
        have HF : Aside0 (rdAt (at_ .t js) (s, vs) = (s1.fail, vs1)) := ⟨by rw [HER.out, HR.out]; exact bad_t _ _ _ rfl⟩
        have hcase := textA_no hok
        clear hpl hpl2 hpp hj hok HER HE HR
        obtain ⟨D1, hD1⟩ : ∃ D1 : ByteArray, D1 = ⟨s1.D.toArray⟩ := ⟨_, rfl⟩
        rw [← hD1] at ctk d1
        clear hD1
        rcases hcase with hb | ⟨hb, hA⟩
        · rw [hb] at d2
          have HBD := Aside0.mk hb
          generalize textA (NumsPure.T true 9 s1.D) = tA at ctk
          obtain ⟨t1, t2, t3⟩ := tA
          (try simp only at ctk)
          clear hb
          go_wp2_with (go_at_call 97; refine (ctk _).mono ?_; rintro e wA ⟨rfl, hk⟩; have HA : Aside0 (Rw wb s1 wA ∧ Cs xb T vs1 wA ∧ Fr (fun i => i = wb ∨ i = xb) w wA) := ⟨HI.out.1.below hk, HI.out.2.1.keep (hk.block xb HI.out.2.1.lt), HI.out.2.2.trans (Fr.of_below hk) fun i hi => .inl hi⟩; clear hk; obtain ⟨k0, k1, k2, kf⟩ := HA.out.1.cells; rw [HBD.out] at k2)
          go_end0
          refine ⟨rfl, ?_⟩
          rw [HF.out]
          exact ⟨HA.out.1.isBad, Cs.other HA.out.2.1 _ _ hxw.symm, HA.out.2.2.set _ _ (.inl (.inl rfl))⟩
        · rw [hb] at d2
          have HBD := Aside0.mk hb
          rw [hA] at ctk
          clear hb hA
          go_wp2_with (go_at_call 97; refine (ctk _).mono ?_; rintro e wA ⟨rfl, hk⟩; have HA : Aside0 (Rw wb s1 wA ∧ Cs xb T vs1 wA ∧ Fr (fun i => i = wb ∨ i = xb) w wA) := ⟨HI.out.1.below hk, HI.out.2.1.keep (hk.block xb HI.out.2.1.lt), HI.out.2.2.trans (Fr.of_below hk) fun i hi => .inl hi⟩; clear hk; obtain ⟨k0, k1, k2, kf⟩ := HA.out.1.cells; rw [HBD.out] at k2)
          go_end0
          refine ⟨rfl, ?_⟩
          rw [HF.out]
          exact ⟨HA.out.1.isBad, Cs.other HA.out.2.1 _ _ hxw.symm, HA.out.2.2.set _ _ (.inl (.inl rfl))⟩
    · obtain rfl : i = n := by omega
      have HF : Aside0 (js.take i = js) := ⟨List.take_of_length_le (by have := HN.out; omega)⟩
      go_wp2
      go_end0
      have := HI.out
      rw [HF.out] at this
      exact ⟨rfl, this⟩
theorem Wr.byteB {B wb bb : Nat} {bs : List UInt8} {w : World} (h : Wr B wb bb bs w) (b : Bool) (hl : bs.length + 1 ≤ 140737488355328) :
    Calls Tryz.prog 100 #[.pointer (some ⟨bb, 0, none⟩), .int .u8 (if b then 1 else 0)] w fun e w' => e = .returned .nilIface ∧ Wr B wb bb (bs ++ [if b then 1 else 0]) w' ∧ Wk B bb w w' := by
  cases b
  · exact h.byte 0 hl
  · exact h.byte 1 hl
set_option maxHeartbeats 8000000 in
set_option maxRecDepth 100000 in
theorem truths_w {B wb bb g xb : Nat} {bs : List UInt8} {js : List Nat} {T : TypeId} {vs : List Value} {w : World} (h : Wr B wb bb bs w) (hp : Cs g 169 (js.map (ptr xb)) w) (hx : Cs xb T vs w) (hT : T ≠ 5) (hT2 : T ≠ 108)
    (hk : OkAt (at_ .b js) vs) (hl : bs.length + (encAt (at_ .b js) vs).length ≤ 140737488355328) (hjs : js.length ≤ 1000) :
    Calls Tryz.prog 72 #[.pointer (some ⟨wb, 0, none⟩), .slice (some ⟨g, 0, none⟩) js.length js.length] w (Writ B wb bb (bs ++ encAt (at_ .b js) vs) w) := by
  have hgb : g ≠ bb := h.bbT hp (by decide)
  have hxb : xb ≠ bb := h.bbT hx hT2
  obtain ⟨n, hn⟩ : ∃ n, n = js.length := ⟨_, rfl⟩
  rw [← hn]
  have hn1 : n ≤ 1000 := by omega
  have HN := Aside0.mk hn
  have H := Aside0.mk h
  have HP := Aside0.mk hp
  have HX := Aside0.mk hx
  have HT := Aside0.mk (And.intro hT hT2)
  have HK := Aside0.mk hk
  have HL := Aside0.mk hl
  clear h hp hx hT hT2 hk hl hn hjs
  go_enter Tryz.func72, Tryz.ntmps72
  go_wp2_with (fail)
  go_loopw [8] (fun v8 wr => ∃ i : Nat, i ≤ n ∧ v8 = .int .i64 i ∧ Aside0 (Wr B wb bb (bs ++ encAt (at_ .b (js.take i)) vs) wr ∧ Wk B bb w wr)) (fun v8 _ => n - (intOf v8).toNat)
  case atStart => exact ⟨0, by omega, rfl, ⟨by simpa [at_, encAt] using H.out, Wk.refl _ _ _⟩⟩
  case round =>
    obtain ⟨i, hi, rfl, HI⟩ := hrel
    by_cases hlt : i < n
    · have hjl : i < js.length := by have := HN.out; omega
      obtain ⟨j, hj⟩ : ∃ j, js[i]? = some j := ⟨_, List.getElem?_eq_getElem hjl⟩
      obtain ⟨v, hv, z, rfl⟩ := HK.out (K.b, j) (by unfold at_; exact List.mem_map.2 ⟨j, List.mem_of_getElem? hj, rfl⟩)
      have hpc : wr.cell? ⟨g, i, none⟩ = some (.pointer (some ⟨xb, j, none⟩)) := by rw [(HI.out.2.cs HP.out (by decide) hgb).cell, List.getElem?_map, hj]; rfl
      have hxc : wr.cell? ⟨xb, j, none⟩ = some (.bool z) := by rw [(HI.out.2.cs HX.out HT.out.1 hxb).cell]; exact hv
      have hwc := HI.out.1.out
      have HE : Aside0 (encAt (at_ .b (js.take (i + 1))) vs = encAt (at_ .b (js.take i)) vs ++ [if z then 1 else 0]) := ⟨by rw [at_take .b js i j hj, encAt_one _ _ _ _ _ hv]; rfl⟩
      have HLN : Aside0 ((bs ++ encAt (at_ .b (js.take i)) vs).length + 1 ≤ 140737488355328) := ⟨by
        have h1 := HL.out
        have h2 := encAt_le (at_ .b (js.take (i + 1))) (at_ .b (js.drop (i + 1))) vs
        rw [← at_split, HE.out] at h2
        rw [List.length_append] at h2 ⊢
        simp only [List.length_cons, List.length_nil] at h2
        omega⟩
      clear hj hv
      have cb := HI.out.1.byteB z HLN.out
      cases z
      all_goals
        simp only [Bool.false_eq_true, if_true, if_false] at cb
        go_wp2_with (go_at_call 100; refine cb.mono ?_; rintro e wC ⟨rfl, hk1, hk2⟩; have HC := Aside0.mk (And.intro hk1 (HI.out.2.trans hk2)); clear hk1 hk2)
        go_roundw
        case rel => exact ⟨i + 1, by omega, by go_num, ⟨by rw [HE.out, ← List.append_assoc]; exact HC.out⟩⟩
        case measure => simp [intOf]; omega
    · obtain rfl : i = n := by omega
      have HF : Aside0 (js.take i = js) := ⟨List.take_of_length_le (by have := HN.out; omega)⟩
      go_wp2
      go_end0
      refine ⟨rfl, ?_, HI.out.2⟩
      have := HI.out.1
      rw [HF.out] at this
      exact this
/-- What a truth's reading finds. -/
def okB (s : Rd) : Option (Bool × List UInt8) := if s.bad then none else match s.D with
  | [] => none
  | c :: r => if c.toNat ≤ 1 then some (c.toNat == 1, r) else none
theorem rdB_no {s : Rd} (h : okB s = none) (v : Value) : rdB s v = (s.fail, v) := by
  unfold okB at h
  unfold rdB
  split at h
  · rename_i hb
    rw [if_pos hb]
    unfold Rd.fail
    rw [← hb]
  · rename_i hb
    rw [if_neg hb]
    split at h
    · rename_i hT; rw [hT]
    · rename_i c r hT
      split at h
      · cases h
      · rename_i hn
        rw [hT]
        simp only
        rw [if_neg hn]
theorem index0 (c : UInt8) (r : List UInt8) (W : World) : (Instr.index 9 (.string ⟨(c :: r).toArray⟩) (.int .i64 0)).run Tryz.prog W = .ok (.int .u8 (c.toNat : Int)) W := by
  have h0 : (0 : Int) < ByteArray.size ⟨(c :: r).toArray⟩ := by rw [size_mk]; simp
  have h1 : 0 < ByteArray.size ⟨(c :: r).toArray⟩ := by rw [size_mk]; simp
  have e : (⟨(c :: r).toArray⟩ : ByteArray)[0] = c := rfl
  go_simp
  try rfl
theorem slice1 (c : UInt8) (r : List UInt8) : ByteArray.extract ⟨(c :: r).toArray⟩ 1 (ByteArray.size ⟨(c :: r).toArray⟩) = ⟨r.toArray⟩ := by
  rw [extract_drop _ _ (by rw [size_mk]; simp)]
  rfl
set_option maxHeartbeats 8000000 in
set_option maxRecDepth 100000 in
theorem truths_r {wb g xb : Nat} {s : Rd} {js : List Nat} {T : TypeId} {vs : List Value} {w : World} (h : Rw wb s w) (hp : Cs g 169 (js.map (ptr xb)) w) (hx : Cs xb T vs w) (hgw : g ≠ wb) (hgx : g ≠ xb) (hxw : xb ≠ wb)
    (hj : ∀ j ∈ js, j < vs.length) (hl : s.D.length ≤ 1000000000000) (hjs : js.length ≤ 1000) :
    Calls Tryz.prog 72 #[.pointer (some ⟨wb, 0, none⟩), .slice (some ⟨g, 0, none⟩) js.length js.length] w (Redd wb xb T (rdAt (at_ .b js) (s, vs)) w) := by
  obtain ⟨n, hn⟩ : ∃ n, n = js.length := ⟨_, rfl⟩
  rw [← hn]
  have hn1 : n ≤ 1000 := by omega
  have HN := Aside0.mk hn
  have H := Aside0.mk h
  have HP := Aside0.mk hp
  have HX := Aside0.mk hx
  have HJ := Aside0.mk hj
  have HL := Aside0.mk hl
  clear h hp hx hj hl hn hjs
  go_enter Tryz.func72, Tryz.ntmps72
  go_wp2_with (fail)
  go_loopw [8] (fun v8 wr => ∃ i : Nat, i ≤ n ∧ v8 = .int .i64 i ∧ Aside0 (Rw wb (rdAt (at_ .b (js.take i)) (s, vs)).1 wr ∧ Cs xb T (rdAt (at_ .b (js.take i)) (s, vs)).2 wr ∧ Fr (fun i => i = wb ∨ i = xb) w wr)) (fun v8 _ => n - (intOf v8).toNat)
  case atStart => exact ⟨0, by omega, rfl, ⟨H.out, HX.out, Fr.refl _ _⟩⟩
  case round =>
    obtain ⟨i, hi, rfl, HI⟩ := hrel
    by_cases hlt : i < n
    · have hjl : i < js.length := by have := HN.out; omega
      obtain ⟨j, hj⟩ : ∃ j, js[i]? = some j := ⟨_, List.getElem?_eq_getElem hjl⟩
      have hpc : wr.cell? ⟨g, i, none⟩ = some (.pointer (some ⟨xb, j, none⟩)) := by rw [(HP.out.keep (HI.out.2.2.block g HP.out.lt (by rintro (e | e); exact hgw e; exact hgx e))).cell, List.getElem?_map, hj]; rfl
      obtain ⟨hpl, hpl2⟩ := rdAt_len (at_ .b (js.take i)) (s, vs)
      have HE : Aside0 (rdAt (at_ .b (js.take (i + 1))) (s, vs) = rd1At (.b, j) (rdAt (at_ .b (js.take i)) (s, vs))) := ⟨by rw [at_take .b js i j hj, rdAt_append]; rfl⟩
      have HER : Aside0 (rdAt (at_ .b js) (s, vs) = rdAt (at_ .b (js.drop (i + 1))) (rd1At (.b, j) (rdAt (at_ .b (js.take i)) (s, vs)))) := ⟨at_rest .b js i j hj (s, vs)⟩
      have HJL : Aside0 (j < vs.length) := ⟨HJ.out j (List.mem_of_getElem? hj)⟩
      obtain ⟨p, hpp⟩ : ∃ p, p = rdAt (at_ .b (js.take i)) (s, vs) := ⟨_, rfl⟩
      rw [← hpp] at HI hpl hpl2 HE HER
      obtain ⟨s1, vs1⟩ := p
      simp only at HI hpl hpl2
      have HJ2 : Aside0 (j < vs1.length) := ⟨by rw [hpl2]; exact HJL.out⟩
      obtain ⟨hwc, d1, d2, df⟩ := HI.out.1.cells
      have fx : wr.frozen? ⟨xb, j, none⟩ = false := HI.out.2.1.frozen j
      obtain ⟨old, ho⟩ : ∃ old, wr.cell? ⟨xb, j, none⟩ = some old := ⟨_, by rw [HI.out.2.1.cell]; exact List.getElem?_eq_getElem HJ2.out⟩
      cases hok : okB s1 with
      | some ab =>
        obtain ⟨b, r⟩ := ab
        obtain ⟨D1, bad1⟩ := s1
        have hb : bad1 = false := by
          cases bad1
          · rfl
          · simp [okB] at hok
        subst hb
        cases D1 with
        | nil => simp [okB] at hok
        | cons c r' =>
          simp only [okB, Bool.false_eq_true, if_false] at hok
          split at hok
          · rename_i hc
            simp only [Option.some.injEq, Prod.mk.injEq] at hok
            obtain ⟨hb, rfl⟩ := hok
            have HR : Aside0 (rd1At (.b, j) (⟨c :: r', false⟩, vs1) = (⟨r', false⟩, vs1.set j (.bool b))) := ⟨by unfold rd1At; simp only [rd1, rdB, Bool.false_eq_true, if_false]; rw [if_pos hc, hb]⟩
            have hc1 : (c.toNat : Int) ≤ 1 := by omega
            have hcb : ((c.toNat : Int) == 1) = b := by
              have : c.toNat = 0 ∨ c.toNat = 1 := by omega
              rcases this with e | e <;> rw [← hb, e] <;> rfl
            have hix := index0 c r'
            have hsl := slice1 c r'
            have hne : (⟨(c :: r').toArray⟩ : ByteArray).size ≠ 0 := by rw [size_mk]; simp
            have hn0 : (⟨(c :: r').toArray⟩ : ByteArray).toList.isEmpty = false := by rw [ByteArray.toList_eq]; simp
            have hn1' : (1 : Int) ≤ (⟨(c :: r').toArray⟩ : ByteArray).size := by rw [size_mk]; simp; omega
            obtain ⟨S, hS⟩ : ∃ S : ByteArray, S = ⟨(c :: r').toArray⟩ := ⟨_, rfl⟩
            obtain ⟨S2, hS2⟩ : ∃ S2 : ByteArray, S2 = ⟨r'.toArray⟩ := ⟨_, rfl⟩
            simp only at d1
            rw [← hS] at d1 hix hsl hne hn0 hn1'
            rw [← hS2] at hsl
            have HS := Aside0.mk (And.intro hS hS2)
            have HB := Aside0.mk hb
            clear hpl hpl2 hpp hj HER hb hS hS2
            go_upto_region 3 with (fail)
            go_region
            all_goals
              go_wp2
              go_roundw
              case rel =>
                refine ⟨i + 1, by omega, by go_num, ⟨?_⟩⟩
                rw [HE.out, HR.out]
                exact ⟨by rw [HS.out.2]; exact Rw.data (Cs.other HI.out.1 ⟨xb, j, none⟩ (.bool b) hxw) r', Cs.other (HI.out.2.1.set j (.bool b)) _ _ hxw.symm, ((HI.out.2.2.set _ _ (.inl (.inr rfl))).set _ _ (.inl (.inl rfl))).drew⟩
              case measure => simp [intOf]; omega
          · cases hok
      | none =>
        have HR : Aside0 (rd1At (.b, j) (s1, vs1) = (s1.fail, vs1)) := ⟨by
          unfold rd1At
          simp only [rd1, rdB_no hok]
          rw [set_same]⟩
        have HF : Aside0 (rdAt (at_ .b js) (s, vs) = (s1.fail, vs1)) := ⟨by rw [HER.out, HR.out]; exact bad_b _ _ _ rfl⟩
        have hcase : s1.bad = true ∨ (s1.bad = false ∧ (s1.D = [] ∨ ∃ c r, s1.D = c :: r ∧ 1 < c.toNat)) := by
          unfold okB at hok
          cases hb : s1.bad
          · refine .inr ⟨rfl, ?_⟩
            rw [hb] at hok
            simp only [Bool.false_eq_true, if_false] at hok
            split at hok
            · rename_i h; exact .inl h
            · rename_i c r h
              split at hok
              · cases hok
              · exact .inr ⟨c, r, h, by omega⟩
          · exact .inl rfl
        clear hpl hpl2 hpp hj hok HER HE HR
        have HI' := HI
        rcases hcase with hb | ⟨hb, hD | ⟨c, r, hD, hc⟩⟩
        case' inr.inl => have hn0 : (⟨s1.D.toArray⟩ : ByteArray).toList.isEmpty = true := by rw [hD, ByteArray.toList_eq]; rfl
        case' inr.inr =>
          have hn0 : (⟨s1.D.toArray⟩ : ByteArray).toList.isEmpty = false := by rw [hD, ByteArray.toList_eq]; simp
          have hix := index0 c r
          rw [← hD] at hix
          have hn1' : (1 : Int) ≤ (⟨s1.D.toArray⟩ : ByteArray).size := by rw [hD, size_mk]; simp; omega
          have hc1 : (1 : Int) < (c.toNat : Int) := by omega
        all_goals
          rw [hb] at d2
          obtain ⟨S, hS⟩ : ∃ S : ByteArray, S = ⟨s1.D.toArray⟩ := ⟨_, rfl⟩
          try rw [← hS] at hn0
          try rw [← hS] at hix hn1'
          rw [← hS] at d1
          try clear hD
          clear hb hS
          go_wp2
          go_end0
          refine ⟨rfl, ?_⟩
          rw [HF.out]
          exact ⟨HI.out.1.isBad, Cs.other HI.out.2.1 _ _ hxw.symm, HI.out.2.2.set _ _ (.inl (.inl rfl))⟩
    · obtain rfl : i = n := by omega
      have HF : Aside0 (js.take i = js) := ⟨List.take_of_length_le (by have := HN.out; omega)⟩
      go_wp2
      go_end0
      have := HI.out
      rw [HF.out] at this
      exact ⟨rfl, this⟩
end Go.Proofs.YtgdoodeibcfcjaaGreat.Wire
