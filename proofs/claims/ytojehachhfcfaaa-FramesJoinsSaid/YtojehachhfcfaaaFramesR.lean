/- What the document's Join answers: what the program's does. -/
import Derived.Test.YtojehachhfcfaaaFramesT
import Derived.Test.YtojehachhfcfaaaFramesJ
import Derived.Test.YtojehachhfcfaaaPrint5
set_option linter.unusedVariables false
set_option linter.unusedSimpArgs false
namespace Go.Proofs.Ytojehachhfcfaaa.FramesPure
open Go.RowKit Go.Proofs.Ytojehachhfcfaaa.SumPure Go.Proofs.Ytojehachhfcfaaa.Arr Go.Proofs.Ytojehachhfcfaaa.Sect Go.Proofs.Ytojehachhfcfaaa.Print Go.Proofs.YtojehachhfcfaaaW.PrintWords Go.Proofs.YtojehachhfcfaaaW.PrintLast Go.Proofs.YtojehachhfcfaaaW.PrintMore

def coll (n q : Int) : Nat → List ByteArray → Option (List (List UInt8))
  | _, [] => some []
  | i, s :: ss => match tellP s.data.toList with
    | none => none
    | some (n', p', q', d) => if n' = n ∧ q' = q ∧ p' = (i : Int) then (coll n q (i + 1) ss).map (d :: ·) else none
def collT (n q : Int) (X : List UInt8) : Option (List (List UInt8)) → Int × ByteArray × Int × Int
  | none => (0, ⟨#[]⟩, 0, 43)
  | some ds => (n, ⟨(X ++ ds.flatten).toArray⟩, q, 0)
theorem tellT_some (n p q : Int) (d : List UInt8) : tellT (some (n, p, q, d)) = (n, p, q, ⟨d.toArray⟩, 0) := rfl
theorem coll_cons (n q : Int) (i : Nat) (s : ByteArray) (ss : List ByteArray) (n' p' q' : Int) (d : List UInt8) (h : tellP s.data.toList = some (n', p', q', d)) :
    coll n q i (s :: ss) = if n' = n ∧ q' = q ∧ p' = (i : Int) then (coll n q (i + 1) ss).map (d :: ·) else none := by
  rw [coll, h]
theorem collT_map (n q : Int) (X d : List UInt8) (o : Option (List (List UInt8))) : collT n q X (o.map (d :: ·)) = collT n q (X ++ d) o := by
  cases o with
  | none => rfl
  | some ds => simp [collT]
theorem RJoin_l0 (ss : List ByteArray) (n p : Int) (q : Nat) (d0 : ByteArray) (hq : q ≤ ss.length) (h8 : q ≤ 8) (m : Nat) : ∀ (k i : Nat) (X : List UInt8), i + m = q → m + 142 ≤ k → X.length ≤ 55 * i →
    stevedoreref04_Join.l0 k ss ⟨X.toArray⟩ (i : Int) n p (q : Int) d0 = some (collT n q X (coll n q i ((ss.drop i).take m))) := by
  induction m with
  | zero =>
    intro k i X hi hk hX
    obtain ⟨k, rfl⟩ : ∃ m, k = m + 1 := ⟨k - 1, by omega⟩
    simp only [stevedoreref04_Join.l0]
    rw [if_neg (by omega), List.take_zero, coll, collT, List.flatten_nil, List.append_nil]
  | succ m ih =>
    intro k i X hi hk hX
    obtain ⟨k, rfl⟩ : ∃ m, k = m + 1 := ⟨k - 1, by omega⟩
    have h1 : i < ss.length := by omega
    simp only [stevedoreref04_Join.l0]
    rw [if_pos (by omega), if_pos (by omega), if_pos (by omega), rd_at _ ss i ss[i] (by simp [h1]), RTell_at _ (by omega), Option.bind_some, List.drop_eq_getElem_cons h1, List.take_succ_cons]
    rcases ht : tellP ss[i].data.toList with _ | ⟨n', p', q', dd⟩
    · rw [coll, ht]; rfl
    · rw [coll_cons _ _ _ _ _ _ _ _ _ ht]
      rw [tellT_some]; dsimp only; rw [if_pos (show (0 : Int) = 0 from rfl)]
      have hd := (tellP_some ht).1.2.2.2.2.2.2.1
      rcases Decidable.em (¬(n' = n)) with c1 | c1
      · rw [if_neg c1, if_neg (fun h => c1 h.1)]; rfl
      have c1 := Decidable.not_not.1 c1
      rcases Decidable.em (¬(q' = (q : Int))) with c2 | c2
      · rw [if_pos c1, if_neg c2, if_neg (fun h => c2 h.2.1)]; rfl
      have c2 := Decidable.not_not.1 c2
      rcases Decidable.em (¬(p' = (i : Int))) with c3 | c3
      · rw [if_pos c1, if_pos c2, if_neg c3, if_neg (fun h => c3 h.2.2)]; rfl
      have c3 := Decidable.not_not.1 c3
      rw [if_pos c1, if_pos c2, if_pos c3, if_pos (by rw [size_mk, size_mk]; omega), if_pos (show n' = n ∧ q' = (q : Int) ∧ p' = (i : Int) from ⟨c1, c2, c3⟩), collT_map, ba_append, wrap_id (x := (i : Int) + 1) (by omega) (by omega)]
      exact ih k (i + 1) (X ++ dd) (by omega) (by omega) (by simp; omega)

theorem coll_secs {n : Int} {D : List UInt8} (h : okLay n D) (m : Nat) : ∀ i, i + m = cnt D.length →
    coll n (cnt D.length : Nat) i ((List.range' i m).map (secAt n D (cnt D.length))) = some ((List.range' i m).map (chunk D)) := by
  induction m with
  | zero => intro i hi; rfl
  | succ m ih =>
    intro i hi
    rw [List.range'_succ, List.map_cons, List.map_cons, coll_cons _ _ _ _ _ _ _ _ _ (tell_sec h (by omega)), if_pos ⟨rfl, rfl, rfl⟩, ih (i + 1) (by omega)]; rfl
theorem coll_some (n q : Int) (L : List ByteArray) : ∀ (i : Nat) (ds : List (List UInt8)), coll n q i L = some ds →
    ds.length = L.length ∧ ∀ j, j < L.length → okPart n ((i + j : Nat) : Int) q (ds.getD j []).length ∧ L[j]? = some ⟨(sect n ((i + j : Nat) : Int) q (ds.getD j [])).toArray⟩ := by
  induction L with
  | nil => intro i ds h; rw [coll] at h; obtain rfl := Option.some.inj h; exact ⟨rfl, fun j hj => absurd hj (by simp)⟩
  | cons s L ih =>
    intro i ds h
    rcases ht : tellP s.data.toList with _ | ⟨n', p', q', d⟩
    · rw [coll, ht] at h; simp at h
    rw [coll_cons _ _ _ _ _ _ _ _ _ ht] at h
    split at h
    · rename_i hc
      obtain ⟨rfl, rfl, rfl⟩ := hc
      rcases hds : coll n' q' (i + 1) L with _ | ds'
      · rw [hds] at h; simp at h
      · rw [hds] at h
        obtain rfl := Option.some.inj h
        obtain ⟨a, b⟩ := ih (i + 1) ds' hds
        obtain ⟨t1, t2⟩ := tellP_some ht
        refine ⟨by simp [a], fun j hj => ?_⟩
        cases j with
        | zero =>
          refine ⟨t1, ?_⟩
          show some s = some _
          congr 1
          apply ba_ext
          exact t2.symm
        | succ j =>
          have := b j (by simpa using hj)
          rw [show i + (j + 1) = i + 1 + j from by omega]
          exact this
    · simp at h
theorem chunk_flat (ds : List (List UInt8)) : (∀ j, j + 1 < ds.length → (ds.getD j []).length = 55) → (∀ j, (ds.getD j []).length ≤ 55) → ∀ j, j < ds.length → chunk ds.flatten j = ds.getD j [] := by
  induction ds with
  | nil => intro _ _ j hj; exact absurd hj (by simp)
  | cons d ds ih =>
    intro h hl j hj
    cases j with
    | zero =>
      show (List.drop (55 * 0) (d :: ds).flatten).take 55 = d
      rw [Nat.mul_zero, List.drop_zero, List.flatten_cons]
      have h0 : d.length ≤ 55 := hl 0
      cases ds with
      | nil => rw [List.flatten_nil, List.append_nil, List.take_of_length_le h0]
      | cons d' ds =>
        have h1 : d.length = 55 := h 0 (by simp)
        rw [List.take_left' h1]
    | succ j =>
      have h1 : d.length = 55 := h 0 (by simp at hj ⊢; omega)
      have := ih (fun i hi => h (i + 1) (by simp at hi ⊢; omega)) (fun i => hl (i + 1)) j (by simpa using hj)
      show _ = ds.getD j []
      rw [← this]
      unfold chunk
      rw [List.flatten_cons, show 55 * (j + 1) = d.length + 55 * j from by omega, ← List.drop_drop, List.drop_left]
theorem flat_len (ds : List (List UInt8)) : (∀ j, j + 1 < ds.length → (ds.getD j []).length = 55) → ds.flatten.length = 55 * (ds.length - 1) + (ds.getD (ds.length - 1) []).length := by
  induction ds with
  | nil => intro _; rfl
  | cons d ds ih =>
    intro h
    have := ih (fun i hi => h (i + 1) (by simp at hi ⊢; omega))
    rw [List.flatten_cons, List.length_append, this]
    cases ds with
    | nil => simp
    | cons d' ds =>
      have h1 : d.length = 55 := h 0 (by simp)
      simp only [List.length_cons, Nat.add_sub_cancel, List.getD_cons_succ] at *
      omega
theorem coll_lay {n : Int} {q : Nat} {L : List ByteArray} {ds : List (List UInt8)} (h : coll n q 0 L = some ds) (hL : L.length = q) (hq : 1 ≤ q) : okLay n ds.flatten ∧ cnt ds.flatten.length = q ∧ secs n ds.flatten = L := by
  obtain ⟨h1, h2⟩ := coll_some n q L 0 ds h
  have hf : ∀ j, j + 1 < ds.length → (ds.getD j []).length = 55 := fun j hj => by
    have := (h2 j (by omega)).1.2.2.2.2.2.2.2.1
    exact this (by omega)
  have hl : ∀ j, (ds.getD j []).length ≤ 55 := fun j => by
    by_cases hj : j < L.length
    · exact (h2 j hj).1.2.2.2.2.2.2.1
    · rw [List.getD_eq_getElem?_getD, List.getElem?_eq_none (by omega)]; simp
  have hlen := flat_len ds hf
  have h0 := (h2 (q - 1) (by omega)).1
  rw [show ds.length - 1 = q - 1 from by omega] at hlen
  have hll := hl (q - 1)
  have h9 := h0.2.2.2.2.2.2.2.2 (by omega)
  have hc : cnt ds.flatten.length = q := by
    rw [hlen]; unfold cnt; omega
  refine ⟨⟨h0.1, h0.2.1, by have := h0.2.2.2.1; omega⟩, hc, ?_⟩
  apply List.ext_getElem?
  intro j
  unfold secs
  rw [hc]
  by_cases hj : j < q
  · rw [(h2 j (by omega)).2]
    rw [List.getElem?_map, List.getElem?_range hj]
    show some (secAt n ds.flatten q j) = _
    unfold secAt
    rw [chunk_flat ds hf hl j (by omega), Nat.zero_add]
  · rw [List.getElem?_eq_none (by simp; omega), List.getElem?_eq_none (by omega)]
theorem RJoin_at (ss : List ByteArray) (hs : ss.length ≤ 1000000000000000) {k : Nat} (hk : 160 ≤ k) : stevedoreref04_Join.f k ss = some (joinP ss) := by
  obtain ⟨k, rfl⟩ : ∃ m, k = m + 1 := ⟨k - 1, by omega⟩
  unfold stevedoreref04_Join.f
  cases ss with
  | nil => rw [if_pos (by rfl)]; rfl
  | cons s tl =>
    have hp : 0 < (s :: tl).length := by simp
    rw [if_neg (by omega), if_pos (by omega), show rdOf ByteArray.empty (s :: tl) 0 = s from rfl, RTell_at _ (by omega), Option.bind_some]
    simp only [stevedoreref04_Join.j0]
    rcases join_back (s :: tl) with hj | ⟨n, D, hok, hsec, hle, hj⟩
    · rw [hj]
      rcases ht : tellP s.data.toList with _ | ⟨n, p, q, d⟩
      · rfl
      rw [tellT_some]; dsimp only; rw [if_pos (show (0 : Int) = 0 from rfl)]
      rcases Decidable.em (¬(p = 0)) with c1 | c1
      · rw [if_neg c1, if_pos trivial]
      have c1 := Decidable.not_not.1 c1
      rw [if_pos c1]
      obtain ⟨⟨o1, o2, o3, o4, _⟩, _⟩ := tellP_some ht
      by_cases c2 : q > ((s :: tl).length : Int)
      · rw [if_pos (decide_eq_true c2)]
      rw [if_neg (by simpa using c2)]
      obtain ⟨Q, rfl⟩ : ∃ Q : Nat, q = Q := ⟨q.toNat, by omega⟩
      have := RJoin_l0 (s :: tl) n p Q ⟨d.toArray⟩ (by omega) (by omega) Q k 0 [] (by omega) (by omega) (by simp)
      rw [List.drop_zero] at this
      refine Eq.trans this ?_
      rcases hc : coll n Q 0 ((s :: tl).take Q) with _ | ds
      · rfl
      · exfalso
        obtain ⟨a, b, c⟩ := coll_lay hc (by rw [List.length_take]; omega) (by omega)
        have e := join_secs a ((s :: tl).drop Q)
        rw [c, List.take_append_drop, hj] at e
        simp at e
    · have hp1 := cnt_pos D.length
      have e0 : (s :: tl)[0]? = some (secAt n D (cnt D.length) 0) := by
        have := congrArg (·[0]?) hsec
        simp only [secs] at this
        rw [List.getElem?_map, List.getElem?_range (by omega), List.getElem?_take_of_lt (by omega)] at this
        exact this.symm
      obtain rfl := Option.some.inj e0
      rw [hj, tell_sec hok (by omega)]
      have h8 := (cnt_le D.length).2 hok.2.2
      rw [tellT_some]; dsimp only; rw [if_pos (show (0 : Int) = 0 from rfl)]
      rw [if_pos (by rfl), if_neg (by rw [decide_eq_true_eq]; omega)]
      have := RJoin_l0 (secAt n D (cnt D.length) 0 :: tl) n 0 (cnt D.length) ⟨(chunk D 0).toArray⟩ hle h8 (cnt D.length) k 0 [] (by omega) (by omega) (by simp)
      rw [List.drop_zero] at this
      refine Eq.trans this ?_
      have e1 := coll_secs hok (cnt D.length) 0 (by omega)
      rw [← List.range_eq_range'] at e1
      rw [← hsec]
      unfold secs
      rw [e1]
      have e2 := chunks D (cnt D.length) 0 (by unfold cnt; omega)
      rw [← List.range_eq_range', Nat.mul_zero, List.drop_zero] at e2
      rw [collT, List.nil_append, ← List.flatMap_def, e2]
end Go.Proofs.Ytojehachhfcfaaa.FramesPure
