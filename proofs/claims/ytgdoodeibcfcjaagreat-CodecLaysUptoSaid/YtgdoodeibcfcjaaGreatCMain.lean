/- The codec's House and Bytes, walked; a house's value: fifteen cells, fourteen lists that stand in memory. Printed by cmain.py. -/
import Derived.Test.YtgdoodeibcfcjaaGreatCCmd
set_option linter.unusedVariables false
set_option linter.unusedSimpArgs false
namespace Go.Proofs.YtgdoodeibcfcjaaGreat.Wire
open Go.RowKit Go.Proofs.YtgdoodeibcfcjaaGreat.NumsPure Go.Proofs.YtgdoodeibcfcjaaGreat.CPure Go.Proofs.YtgdoodeibcfcjaaGreat.Own
open Go.Proofs.YtgdoodeibcfcjaaGreat.Put (digits digits_lt digits_ge)
open Go.Proofs.YtgdoodeibcfcjaaGreat.BldS (Keeps)
def ksJ (j : Nat) : List K := ([ks_item, ks_lot, ks_zone, ks_bin, ks_quant, ks_rule, ks_notice, ks_order, ks_claim, ks_task, ks_parcel, ks_sent, ks_counted, ks_total] : List (List K)).getD j []
def szJ (j : Nat) : Nat := ([14, 3, 2, 8, 6, 3, 51, 50, 8, 11, 2, 5, 5, 6] : List Nat).getD j 0
theorem ksJ_len : ∀ j, (ksJ j).length = szJ j
  | 0 => rfl
  | 1 => rfl
  | 2 => rfl
  | 3 => rfl
  | 4 => rfl
  | 5 => rfl
  | 6 => rfl
  | 7 => rfl
  | 8 => rfl
  | 9 => rfl
  | 10 => rfl
  | 11 => rfl
  | 12 => rfl
  | 13 => rfl
  | _ + 14 => rfl
def stH (s : Rd) : Nat → Rd
  | 0 => s
  | j + 1 => (rdList (ksJ j) (stH s j)).1
theorem stH_0 (s : Rd) : st_house_0 s = stH s 0 := rfl
theorem stH_1 (s : Rd) : st_house_1 s = stH s 1 := by rw [st_house_1_eq, stH_0]; rfl
theorem stH_2 (s : Rd) : st_house_2 s = stH s 2 := by rw [st_house_2_eq, stH_1]; rfl
theorem stH_3 (s : Rd) : st_house_3 s = stH s 3 := by rw [st_house_3_eq, stH_2]; rfl
theorem stH_4 (s : Rd) : st_house_4 s = stH s 4 := by rw [st_house_4_eq, stH_3]; rfl
theorem stH_5 (s : Rd) : st_house_5 s = stH s 5 := by rw [st_house_5_eq, stH_4]; rfl
theorem stH_6 (s : Rd) : st_house_6 s = stH s 6 := by rw [st_house_6_eq, stH_5]; rfl
theorem stH_7 (s : Rd) : st_house_7 s = stH s 7 := by rw [st_house_7_eq, stH_6]; rfl
theorem stH_8 (s : Rd) : st_house_8 s = stH s 8 := by rw [st_house_8_eq, stH_7]; rfl
theorem stH_9 (s : Rd) : st_house_9 s = stH s 9 := by rw [st_house_9_eq, stH_8]; rfl
theorem stH_10 (s : Rd) : st_house_10 s = stH s 10 := by rw [st_house_10_eq, stH_9]; rfl
theorem stH_11 (s : Rd) : st_house_11 s = stH s 11 := by rw [st_house_11_eq, stH_10]; rfl
theorem stH_12 (s : Rd) : st_house_12 s = stH s 12 := by rw [st_house_12_eq, stH_11]; rfl
theorem stH_13 (s : Rd) : st_house_13 s = stH s 13 := by rw [st_house_13_eq, stH_12]; rfl
theorem stH_14 (s : Rd) : st_house_14 s = stH s 14 := by rw [st_house_14_eq, stH_13]; rfl
/-- A house that stands in memory: its fifteen cells, and the things of its lists. -/
structure HouseA (w : World) (vs : List Value) (R : Nat → List (List Value)) (z : Int) : Prop where
  len : vs.length = 15
  row : ∀ j, j < 14 → ∃ A c, vs[j]? = some (.slice A (R j).length c) ∧ RowA w A (szJ j) (ksJ j) c (R j)
  num : vs[14]? = some (.int .i64 z)
theorem RowA.below {w w' : World} {A : Option Addr} {k c : Nat} {ks : List K} {rows : List (List Value)} (h : RowA w A k ks c rows) (b : Below w.heap.size w w') : RowA w' A k ks c rows :=
  ⟨fun hl => by
    obtain ⟨ad, e, hb, hc⟩ := h.at_ hl
    refine ⟨ad, e, Nat.lt_of_lt_of_le hb b.size, fun i x hx m v hv => ?_⟩
    rw [b.cell (p := ad.add (i * k + m)) (by rw [block_of_add]; exact hb)]
    exact hc i x hx m v hv, h.cap, h.fits, h.few⟩
theorem HouseA.below {w w' : World} {vs : List Value} {R : Nat → List (List Value)} {z : Int} (h : HouseA w vs R z) (b : Below w.heap.size w w') : HouseA w' vs R z :=
  ⟨h.len, fun j hj => by
    obtain ⟨A, c, e, hr⟩ := h.row j hj
    exact ⟨A, c, e, hr.below b⟩, h.num⟩
theorem flatten_at {k : Nat} : ∀ (rows : List (List Value)) (i m : Nat) (x : List Value) (v : Value), (∀ y ∈ rows, y.length = k) → rows[i]? = some x → x[m]? = some v → rows.flatten[i * k + m]? = some v
  | [], i, m, x, v, _, hx, _ => by simp at hx
  | y :: rows, 0, m, x, v, hk, hx, hv => by
    obtain rfl : y = x := by simpa using hx
    rw [List.flatten_cons, Nat.zero_mul, Nat.zero_add, List.getElem?_append_left (List.getElem?_eq_some_iff.1 hv).1]
    exact hv
  | y :: rows, i + 1, m, x, v, hk, hx, hv => by
    have hy := hk y (by simp)
    have := flatten_at rows i m x v (fun z hz => hk z (by simp [hz])) (by simpa using hx) hv
    rw [List.flatten_cons, List.getElem?_append_right (by rw [hy, Nat.add_mul]; omega), hy, show (i + 1) * k + m - k = i * k + m from by rw [Nat.add_mul]; omega]
    exact this
theorem own_rowA {w : World} {B k : Nat} {T : TypeId} {v : Value} {ks : List K} {rows : List (List Value)} (h : w.ownsRow B T k v rows.length rows.flatten) (hf : ∀ x ∈ rows, Fits ks x) (hk : ks.length = k) (hn : rows.length ≤ 100000000) : ∃ A c, v = .slice A rows.length c ∧ RowA w A k ks c rows := by
  have hl : ∀ y ∈ rows, y.length = k := fun y hy => by rw [fits_len (hf y hy), hk]
  rcases h.2 with ⟨rfl, h0⟩ | ⟨g, cap, cur, rfl, _, hg, hcap, _⟩
  · exact ⟨none, 0, by rw [h0], ⟨fun hl => by omega, by omega, hf, hn⟩⟩
  · refine ⟨_, _, rfl, ⟨fun _ => ⟨⟨g, 0, none⟩, rfl, (Array.getElem?_eq_some_iff.1 hg).1, fun i x hx m v hv => ?_⟩, hcap, hf, hn⟩⟩
    exact h.cells (g := g) rfl _ _ (flatten_at rows i m x v hl hx hv)
theorem rdList_few (ks : List K) (s : Rd) (hs : s.D.length ≤ 100000000) : (rdList ks s).2.length ≤ 100000000 := by
  unfold rdList
  by_cases hgt : (takeN s).2.D.length < (takeN s).1
  · have e : counted s = ((takeN s).1, (takeN s).2.fail) := by unfold counted; rw [if_pos hgt]
    rw [e, rows_done _ _ _ rfl]; simp
  · have e : counted s = ((takeN s).1, (takeN s).2) := by unfold counted; rw [if_neg hgt]
    rw [e]
    have h1 := rows_len ks (takeN s).1 (takeN s).2
    have h2 := take_len s
    simp only at h1 ⊢
    omega
theorem rdList_fits (ks : List K) (s : Rd) : ∀ x ∈ (rdList ks s).2, Fits ks x := fits_rows ks _ _
theorem stH_len (s : Rd) : ∀ j, (stH s j).D.length ≤ s.D.length
  | 0 => Nat.le_refl _
  | j + 1 => Nat.le_trans (rdList_len _ _) (stH_len s j)
/-- What a house's bytes are read as. -/
def hS (D : List UInt8) : Rd := st_house_15 ⟨D, false⟩
def hR (D : List UInt8) (j : Nat) : List (List Value) := if endN (hS D) = 0 then (rdList (ksJ j) (stH ⟨D, false⟩ j)).2 else []
def hZ (D : List UInt8) : Int := if endN (hS D) = 0 then unfoldN (takeN (stH ⟨D, false⟩ 14)).1 else 0
def HouseRes (D : List UInt8) (w : World) (e : Ending) (w' : World) : Prop := Below w.heap.size w w' ∧ ∃ vs, e = .returned (.tuple #[.agg vs.toArray, .int .i64 (endN (hS D))]) ∧ HouseA w' vs (hR D) (hZ D)
theorem houseA_nil (w : World) : HouseA w [.slice none 0 0, .slice none 0 0, .slice none 0 0, .slice none 0 0, .slice none 0 0, .slice none 0 0, .slice none 0 0, .slice none 0 0, .slice none 0 0, .slice none 0 0, .slice none 0 0, .slice none 0 0, .slice none 0 0, .slice none 0 0, .int .i64 0] (fun _ => []) 0 := by
  refine ⟨rfl, fun j hj => ⟨none, 0, ?_, ⟨fun h => absurd h (by simp), Nat.le_refl _, fun x hx => (by cases hx), by simp⟩⟩, rfl⟩
  have : j = 0 ∨ j = 1 ∨ j = 2 ∨ j = 3 ∨ j = 4 ∨ j = 5 ∨ j = 6 ∨ j = 7 ∨ j = 8 ∨ j = 9 ∨ j = 10 ∨ j = 11 ∨ j = 12 ∨ j = 13 := by omega
  rcases this with rfl | rfl | rfl | rfl | rfl | rfl | rfl | rfl | rfl | rfl | rfl | rfl | rfl | rfl <;> rfl
theorem houseA_own {w : World} {B : Nat} {D : List UInt8} (hD : D.length ≤ 100000000) (he : endN (hS D) = 0) {vs : List Value} (hl : vs.length = 15)
    (r0 : ∃ v, vs[0]? = some v ∧ w.ownsRow B 59 14 v (rdList ks_item (st_house_0 ⟨D, false⟩)).2.length (rdList ks_item (st_house_0 ⟨D, false⟩)).2.flatten)
    (r1 : ∃ v, vs[1]? = some v ∧ w.ownsRow B 62 3 v (rdList ks_lot (st_house_1 ⟨D, false⟩)).2.length (rdList ks_lot (st_house_1 ⟨D, false⟩)).2.flatten)
    (r2 : ∃ v, vs[2]? = some v ∧ w.ownsRow B 65 2 v (rdList ks_zone (st_house_2 ⟨D, false⟩)).2.length (rdList ks_zone (st_house_2 ⟨D, false⟩)).2.flatten)
    (r3 : ∃ v, vs[3]? = some v ∧ w.ownsRow B 68 8 v (rdList ks_bin (st_house_3 ⟨D, false⟩)).2.length (rdList ks_bin (st_house_3 ⟨D, false⟩)).2.flatten)
    (r4 : ∃ v, vs[4]? = some v ∧ w.ownsRow B 73 6 v (rdList ks_quant (st_house_4 ⟨D, false⟩)).2.length (rdList ks_quant (st_house_4 ⟨D, false⟩)).2.flatten)
    (r5 : ∃ v, vs[5]? = some v ∧ w.ownsRow B 76 3 v (rdList ks_rule (st_house_5 ⟨D, false⟩)).2.length (rdList ks_rule (st_house_5 ⟨D, false⟩)).2.flatten)
    (r6 : ∃ v, vs[6]? = some v ∧ w.ownsRow B 82 51 v (rdList ks_notice (st_house_6 ⟨D, false⟩)).2.length (rdList ks_notice (st_house_6 ⟨D, false⟩)).2.flatten)
    (r7 : ∃ v, vs[7]? = some v ∧ w.ownsRow B 85 50 v (rdList ks_order (st_house_7 ⟨D, false⟩)).2.length (rdList ks_order (st_house_7 ⟨D, false⟩)).2.flatten)
    (r8 : ∃ v, vs[8]? = some v ∧ w.ownsRow B 88 8 v (rdList ks_claim (st_house_8 ⟨D, false⟩)).2.length (rdList ks_claim (st_house_8 ⟨D, false⟩)).2.flatten)
    (r9 : ∃ v, vs[9]? = some v ∧ w.ownsRow B 91 11 v (rdList ks_task (st_house_9 ⟨D, false⟩)).2.length (rdList ks_task (st_house_9 ⟨D, false⟩)).2.flatten)
    (r10 : ∃ v, vs[10]? = some v ∧ w.ownsRow B 94 2 v (rdList ks_parcel (st_house_10 ⟨D, false⟩)).2.length (rdList ks_parcel (st_house_10 ⟨D, false⟩)).2.flatten)
    (r11 : ∃ v, vs[11]? = some v ∧ w.ownsRow B 97 5 v (rdList ks_sent (st_house_11 ⟨D, false⟩)).2.length (rdList ks_sent (st_house_11 ⟨D, false⟩)).2.flatten)
    (r12 : ∃ v, vs[12]? = some v ∧ w.ownsRow B 100 5 v (rdList ks_counted (st_house_12 ⟨D, false⟩)).2.length (rdList ks_counted (st_house_12 ⟨D, false⟩)).2.flatten)
    (r13 : ∃ v, vs[13]? = some v ∧ w.ownsRow B 103 6 v (rdList ks_total (st_house_13 ⟨D, false⟩)).2.length (rdList ks_total (st_house_13 ⟨D, false⟩)).2.flatten)
    (hz : vs[14]? = some (.int .i64 (unfoldN (takeN (st_house_14 ⟨D, false⟩)).1))) : HouseA w vs (hR D) (hZ D) := by
  have hR' : ∀ j, hR D j = (rdList (ksJ j) (stH ⟨D, false⟩ j)).2 := fun j => by unfold hR; rw [if_pos he]
  refine ⟨hl, fun j hj => ?_, by rw [hz, stH_14]; unfold hZ; rw [if_pos he]⟩
  rw [hR' j]
  have hlen : (stH ⟨D, false⟩ j).D.length ≤ 100000000 := Nat.le_trans (stH_len _ _) hD
  have key : ∀ {T : TypeId} {v : Value}, vs[j]? = some v → w.ownsRow B T (szJ j) v (rdList (ksJ j) (stH ⟨D, false⟩ j)).2.length (rdList (ksJ j) (stH ⟨D, false⟩ j)).2.flatten → ∃ A c, vs[j]? = some (.slice A (rdList (ksJ j) (stH ⟨D, false⟩ j)).2.length c) ∧ RowA w A (szJ j) (ksJ j) c (rdList (ksJ j) (stH ⟨D, false⟩ j)).2 := fun hv ho => by
    obtain ⟨A, c, e, hr⟩ := own_rowA ho (rdList_fits _ _) (ksJ_len j) (rdList_few _ _ hlen)
    exact ⟨A, c, by rw [hv, e], hr⟩
  have : j = 0 ∨ j = 1 ∨ j = 2 ∨ j = 3 ∨ j = 4 ∨ j = 5 ∨ j = 6 ∨ j = 7 ∨ j = 8 ∨ j = 9 ∨ j = 10 ∨ j = 11 ∨ j = 12 ∨ j = 13 := by omega
  rcases this with rfl | rfl | rfl | rfl | rfl | rfl | rfl | rfl | rfl | rfl | rfl | rfl | rfl | rfl
  · obtain ⟨v, hv, ho⟩ := r0
    rw [stH_0] at ho
    exact key hv ho
  · obtain ⟨v, hv, ho⟩ := r1
    rw [stH_1] at ho
    exact key hv ho
  · obtain ⟨v, hv, ho⟩ := r2
    rw [stH_2] at ho
    exact key hv ho
  · obtain ⟨v, hv, ho⟩ := r3
    rw [stH_3] at ho
    exact key hv ho
  · obtain ⟨v, hv, ho⟩ := r4
    rw [stH_4] at ho
    exact key hv ho
  · obtain ⟨v, hv, ho⟩ := r5
    rw [stH_5] at ho
    exact key hv ho
  · obtain ⟨v, hv, ho⟩ := r6
    rw [stH_6] at ho
    exact key hv ho
  · obtain ⟨v, hv, ho⟩ := r7
    rw [stH_7] at ho
    exact key hv ho
  · obtain ⟨v, hv, ho⟩ := r8
    rw [stH_8] at ho
    exact key hv ho
  · obtain ⟨v, hv, ho⟩ := r9
    rw [stH_9] at ho
    exact key hv ho
  · obtain ⟨v, hv, ho⟩ := r10
    rw [stH_10] at ho
    exact key hv ho
  · obtain ⟨v, hv, ho⟩ := r11
    rw [stH_11] at ho
    exact key hv ho
  · obtain ⟨v, hv, ho⟩ := r12
    rw [stH_12] at ho
    exact key hv ho
  · obtain ⟨v, hv, ho⟩ := r13
    rw [stH_13] at ho
    exact key hv ho
theorem own_slice {w : World} {B n k : Nat} {T : TypeId} {x : Value} {xs : List Value} (h : ∃ v, some x = some v ∧ w.ownsRow B T k v n xs) : ∃ A n c, x = .slice A n c := by
  obtain ⟨v, hv, ho⟩ := h
  cases hv
  obtain ⟨A, c, rfl⟩ := own_shape ho
  exact ⟨_, _, _, rfl⟩
theorem sets15 {w2 : World} {B rb n k : Nat} {T : TypeId} {v : Value} {xs : List Value} {u0 u1 u2 u3 u4 u5 u6 u7 u8 u9 u10 u11 u12 u13 u14 : Value} (h : w2.ownsRow B T k v n xs) (hB : rb < B) : (((((((((((((((w2.setCell ⟨rb, 0, none⟩ u0).setCell ⟨rb, 1, none⟩ u1).setCell ⟨rb, 2, none⟩ u2).setCell ⟨rb, 3, none⟩ u3).setCell ⟨rb, 4, none⟩ u4).setCell ⟨rb, 5, none⟩ u5).setCell ⟨rb, 6, none⟩ u6).setCell ⟨rb, 7, none⟩ u7).setCell ⟨rb, 8, none⟩ u8).setCell ⟨rb, 9, none⟩ u9).setCell ⟨rb, 10, none⟩ u10).setCell ⟨rb, 11, none⟩ u11).setCell ⟨rb, 12, none⟩ u12).setCell ⟨rb, 13, none⟩ u13).setCell ⟨rb, 14, none⟩ u14).ownsRow B T k v n xs :=
  own_same h fun g hg => by
    have := (h.lt g hg).1
    rw [Below.heap_setCell _ _ _ _ (by show g ≠ rb; omega), Below.heap_setCell _ _ _ _ (by show g ≠ rb; omega), Below.heap_setCell _ _ _ _ (by show g ≠ rb; omega), Below.heap_setCell _ _ _ _ (by show g ≠ rb; omega), Below.heap_setCell _ _ _ _ (by show g ≠ rb; omega), Below.heap_setCell _ _ _ _ (by show g ≠ rb; omega), Below.heap_setCell _ _ _ _ (by show g ≠ rb; omega), Below.heap_setCell _ _ _ _ (by show g ≠ rb; omega), Below.heap_setCell _ _ _ _ (by show g ≠ rb; omega), Below.heap_setCell _ _ _ _ (by show g ≠ rb; omega), Below.heap_setCell _ _ _ _ (by show g ≠ rb; omega), Below.heap_setCell _ _ _ _ (by show g ≠ rb; omega), Below.heap_setCell _ _ _ _ (by show g ≠ rb; omega), Below.heap_setCell _ _ _ _ (by show g ≠ rb; omega), Below.heap_setCell _ _ _ _ (by show g ≠ rb; omega)]
set_option maxHeartbeats 16000000 in
set_option maxRecDepth 100000 in
theorem house_any (D : List UInt8) (hl : D.length ≤ 100000000) (w : World) : Calls Tryz.prog 13 #[.string ⟨D.toArray⟩] w (HouseRes D w) := by
  have HL := Aside0.mk hl
  clear hl
  obtain ⟨S, hS_⟩ : ∃ S : ByteArray, S = ⟨D.toArray⟩ := ⟨_, rfl⟩
  rw [← hS_]
  have HS := Aside0.mk hS_
  clear hS_
  go_enter Tryz.func13, Tryz.ntmps13
  go_wp2_with (fail)
  obtain ⟨W, hW⟩ : ∃ W, W = (((w.alloc (.cells #[.slice none 0 0, .slice none 0 0, .slice none 0 0, .slice none 0 0, .slice none 0 0, .slice none 0 0, .slice none 0 0, .slice none 0 0, .slice none 0 0, .slice none 0 0, .slice none 0 0, .slice none 0 0, .slice none 0 0, .slice none 0 0, .int .i64 0] 37)).alloc (.cells #[.pointer none, .string S, .bool false] 110)).alloc (.cells #[.slice none 0 0, .slice none 0 0, .slice none 0 0, .slice none 0 0, .slice none 0 0, .slice none 0 0, .slice none 0 0, .slice none 0 0, .slice none 0 0, .slice none 0 0, .slice none 0 0, .slice none 0 0, .slice none 0 0, .slice none 0 0, .int .i64 0] 37)) := ⟨_, rfl⟩
  have hB : Below w.heap.size w W := by rw [hW]; exact (((Below.refl _ w).alloc (Nat.le_refl _) _).alloc (by simp) _).alloc (by simp; omega) _
  have g0 : Cs w.heap.size 37 [.slice none 0 0, .slice none 0 0, .slice none 0 0, .slice none 0 0, .slice none 0 0, .slice none 0 0, .slice none 0 0, .slice none 0 0, .slice none 0 0, .slice none 0 0, .slice none 0 0, .slice none 0 0, .slice none 0 0, .slice none 0 0, .int .i64 0] W := by
    rw [hW]
    exact Cs.keep (Cs.keep (cs_alloc w _ _ _ rfl) ((alloc_below _ _).block _ (by simp))) ((alloc_below _ _).block _ (by simp; omega))
  have g1 : Rw (w.heap.size + 1) ⟨D, false⟩ W := by
    rw [hW]
    have k := cs_alloc (w.alloc (.cells #[.slice none 0 0, .slice none 0 0, .slice none 0 0, .slice none 0 0, .slice none 0 0, .slice none 0 0, .slice none 0 0, .slice none 0 0, .slice none 0 0, .slice none 0 0, .slice none 0 0, .slice none 0 0, .slice none 0 0, .slice none 0 0, .int .i64 0] 37)) #[.pointer none, .string S, .bool false] 110 _ rfl
    have e : (w.alloc (.cells #[.slice none 0 0, .slice none 0 0, .slice none 0 0, .slice none 0 0, .slice none 0 0, .slice none 0 0, .slice none 0 0, .slice none 0 0, .slice none 0 0, .slice none 0 0, .slice none 0 0, .slice none 0 0, .slice none 0 0, .slice none 0 0, .int .i64 0] 37)).heap.size = w.heap.size + 1 := by simp
    rw [e] at k
    have := Cs.keep k ((alloc_below _ (.cells #[.slice none 0 0, .slice none 0 0, .slice none 0 0, .slice none 0 0, .slice none 0 0, .slice none 0 0, .slice none 0 0, .slice none 0 0, .slice none 0 0, .slice none 0 0, .slice none 0 0, .slice none 0 0, .slice none 0 0, .slice none 0 0, .int .i64 0] 37)).block _ (by simp))
    rw [HS.out] at this ⊢
    exact this
  have g2 : Cs (w.heap.size + 1 + 1) 37 [.slice none 0 0, .slice none 0 0, .slice none 0 0, .slice none 0 0, .slice none 0 0, .slice none 0 0, .slice none 0 0, .slice none 0 0, .slice none 0 0, .slice none 0 0, .slice none 0 0, .slice none 0 0, .slice none 0 0, .slice none 0 0, .int .i64 0] W := by
    rw [hW]
    have := cs_alloc ((w.alloc (.cells #[.slice none 0 0, .slice none 0 0, .slice none 0 0, .slice none 0 0, .slice none 0 0, .slice none 0 0, .slice none 0 0, .slice none 0 0, .slice none 0 0, .slice none 0 0, .slice none 0 0, .slice none 0 0, .slice none 0 0, .slice none 0 0, .int .i64 0] 37)).alloc (.cells #[.pointer none, .string S, .bool false] 110)) #[.slice none 0 0, .slice none 0 0, .slice none 0 0, .slice none 0 0, .slice none 0 0, .slice none 0 0, .slice none 0 0, .slice none 0 0, .slice none 0 0, .slice none 0 0, .slice none 0 0, .slice none 0 0, .slice none 0 0, .slice none 0 0, .int .i64 0] 37 _ rfl
    simpa using this
  have HG := Aside0.mk (And.intro g0 (And.intro g1 (And.intro g2 hB)))
  rw [← hW]
  clear hW g0 g1 g2 hB
  refine (house_r HG.out.2.1 HG.out.2.2.1 (by omega) HL.out).mono ?_
  rintro e w1 ⟨rfl, hcs, hlen, q1, q2, q3, q4⟩
  match hcs, hlen with
  | [x0, x1, x2, x3, x4, x5, x6, x7, x8, x9, x10, x11, x12, x13, x14], _ =>
    obtain ⟨A0, n0, c0, rfl⟩ : ∃ A n c, x0 = .slice A n c := own_slice q4.r0
    obtain ⟨A1, n1, c1, rfl⟩ : ∃ A n c, x1 = .slice A n c := own_slice q4.r1
    obtain ⟨A2, n2, c2, rfl⟩ : ∃ A n c, x2 = .slice A n c := own_slice q4.r2
    obtain ⟨A3, n3, c3, rfl⟩ : ∃ A n c, x3 = .slice A n c := own_slice q4.r3
    obtain ⟨A4, n4, c4, rfl⟩ : ∃ A n c, x4 = .slice A n c := own_slice q4.r4
    obtain ⟨A5, n5, c5, rfl⟩ : ∃ A n c, x5 = .slice A n c := own_slice q4.r5
    obtain ⟨A6, n6, c6, rfl⟩ : ∃ A n c, x6 = .slice A n c := own_slice q4.r6
    obtain ⟨A7, n7, c7, rfl⟩ : ∃ A n c, x7 = .slice A n c := own_slice q4.r7
    obtain ⟨A8, n8, c8, rfl⟩ : ∃ A n c, x8 = .slice A n c := own_slice q4.r8
    obtain ⟨A9, n9, c9, rfl⟩ : ∃ A n c, x9 = .slice A n c := own_slice q4.r9
    obtain ⟨A10, n10, c10, rfl⟩ : ∃ A n c, x10 = .slice A n c := own_slice q4.r10
    obtain ⟨A11, n11, c11, rfl⟩ : ∃ A n c, x11 = .slice A n c := own_slice q4.r11
    obtain ⟨A12, n12, c12, rfl⟩ : ∃ A n c, x12 = .slice A n c := own_slice q4.r12
    obtain ⟨A13, n13, c13, rfl⟩ : ∃ A n c, x13 = .slice A n c := own_slice q4.r13
    obtain rfl : x14 = .int .i64 (unfoldN (takeN (st_house_14 ⟨D, false⟩)).1) := by simpa using q4.n14
    obtain ⟨z, hz⟩ : ∃ z, z = unfoldN (takeN (st_house_14 ⟨D, false⟩)).1 := ⟨_, rfl⟩
    rw [← hz] at q2 q4
    have HZ := Aside0.mk hz
    clear hz
    have HO : Aside0 (Out_house W (w.heap.size + 1 + 1) ⟨D, false⟩ [.slice A0 n0 c0, .slice A1 n1 c1, .slice A2 n2 c2, .slice A3 n3 c3, .slice A4 n4 c4, .slice A5 n5 c5, .slice A6 n6 c6, .slice A7 n7 c7, .slice A8 n8 c8, .slice A9 n9 c9, .slice A10 n10 c10, .slice A11 n11 c11, .slice A12 n12 c12, .slice A13 n13 c13, .int .i64 z] w1) := ⟨q4⟩
    have hrb : Cs w.heap.size 37 [.slice none 0 0, .slice none 0 0, .slice none 0 0, .slice none 0 0, .slice none 0 0, .slice none 0 0, .slice none 0 0, .slice none 0 0, .slice none 0 0, .slice none 0 0, .slice none 0 0, .slice none 0 0, .slice none 0 0, .slice none 0 0, .int .i64 0] w1 := HG.out.1.keep (q3.block _ HG.out.1.lt (by rintro (e | e) <;> omega))
    obtain ⟨en, hen⟩ : ∃ en, en = endN (st_house_15 ⟨D, false⟩) := ⟨_, rfl⟩
    have ce := end_r q1
    rw [← hen] at ce
    have k0 := q2.cell 0
    have k1 := q2.cell 1
    have k2 := q2.cell 2
    have k3 := q2.cell 3
    have k4 := q2.cell 4
    have k5 := q2.cell 5
    have k6 := q2.cell 6
    have k7 := q2.cell 7
    have k8 := q2.cell 8
    have k9 := q2.cell 9
    have k10 := q2.cell 10
    have k11 := q2.cell 11
    have k12 := q2.cell 12
    have k13 := q2.cell 13
    have k14 := q2.cell 14
    simp only [List.getElem?_cons_zero, List.getElem?_cons_succ] at k0 k1 k2 k3 k4 k5 k6 k7 k8 k9 k10 k11 k12 k13 k14
    have f0 := hrb.frozen
    have r0 := hrb.cell 0
    have r1 := hrb.cell 1
    have r2 := hrb.cell 2
    have r3 := hrb.cell 3
    have r4 := hrb.cell 4
    have r5 := hrb.cell 5
    have r6 := hrb.cell 6
    have r7 := hrb.cell 7
    have r8 := hrb.cell 8
    have r9 := hrb.cell 9
    have r10 := hrb.cell 10
    have r11 := hrb.cell 11
    have r12 := hrb.cell 12
    have r13 := hrb.cell 13
    have r14 := hrb.cell 14
    simp only [List.getElem?_cons_zero, List.getElem?_cons_succ] at r0 r1 r2 r3 r4 r5 r6 r7 r8 r9 r10 r11 r12 r13 r14
    have HQ := Aside0.mk q3
    have HE := Aside0.mk hen
    have HC := Aside0.mk q2
    clear q1 q2 q3 q4 hrb hen
    go_wp2_with (fail)
    refine ce.mono ?_
    rintro e w2 ⟨rfl, rfl⟩
    by_cases h0 : en = 0
    · subst h0
      go_wp2
      refine bodyPost_ret (v := .tuple #[.agg #[.slice A0 n0 c0, .slice A1 n1 c1, .slice A2 n2 c2, .slice A3 n3 c3, .slice A4 n4 c4, .slice A5 n5 c5, .slice A6 n6 c6, .slice A7 n7 c7, .slice A8 n8 c8, .slice A9 n9 c9, .slice A10 n10 c10, .slice A11 n11 c11, .slice A12 n12 c12, .slice A13 n13 c13, .int .i64 z], .int .i64 0]) (by simp [results, Tryz.results13, go_sem, r0, r1, r2, r3, r4, r5, r6, r7, r8, r9, r10, r11, r12, r13, r14]) rfl ?_
      have q3 := HQ.out
      have hbel : Below w.heap.size w w2 := ((Fr.of_below (own := fun i => i = w.heap.size + 1 ∨ i = w.heap.size + 1 + 1) HG.out.2.2.2).trans q3 fun i hi => .inl hi).below fun i hi => by rcases hi with e | e <;> omega
      have hWs : w.heap.size < W.heap.size := HG.out.1.lt
      have q4 := HO.out
      refine ⟨(((((((((((((((hbel).setCell (p := ⟨w.heap.size, 0, none⟩) (Nat.le_refl _) _).setCell (p := ⟨w.heap.size, 1, none⟩) (Nat.le_refl _) _).setCell (p := ⟨w.heap.size, 2, none⟩) (Nat.le_refl _) _).setCell (p := ⟨w.heap.size, 3, none⟩) (Nat.le_refl _) _).setCell (p := ⟨w.heap.size, 4, none⟩) (Nat.le_refl _) _).setCell (p := ⟨w.heap.size, 5, none⟩) (Nat.le_refl _) _).setCell (p := ⟨w.heap.size, 6, none⟩) (Nat.le_refl _) _).setCell (p := ⟨w.heap.size, 7, none⟩) (Nat.le_refl _) _).setCell (p := ⟨w.heap.size, 8, none⟩) (Nat.le_refl _) _).setCell (p := ⟨w.heap.size, 9, none⟩) (Nat.le_refl _) _).setCell (p := ⟨w.heap.size, 10, none⟩) (Nat.le_refl _) _).setCell (p := ⟨w.heap.size, 11, none⟩) (Nat.le_refl _) _).setCell (p := ⟨w.heap.size, 12, none⟩) (Nat.le_refl _) _).setCell (p := ⟨w.heap.size, 13, none⟩) (Nat.le_refl _) _).setCell (p := ⟨w.heap.size, 14, none⟩) (Nat.le_refl _) _, [.slice A0 n0 c0, .slice A1 n1 c1, .slice A2 n2 c2, .slice A3 n3 c3, .slice A4 n4 c4, .slice A5 n5 c5, .slice A6 n6 c6, .slice A7 n7 c7, .slice A8 n8 c8, .slice A9 n9 c9, .slice A10 n10 c10, .slice A11 n11 c11, .slice A12 n12 c12, .slice A13 n13 c13, .int .i64 z], ?_, ?_⟩
      · rw [show endN (hS D) = 0 from HE.out.symm]
      · refine houseA_own (B := W.heap.size) HL.out HE.out.symm rfl (by obtain ⟨v, hv, ho⟩ := q4.r0; exact ⟨v, hv, sets15 ho hWs⟩) (by obtain ⟨v, hv, ho⟩ := q4.r1; exact ⟨v, hv, sets15 ho hWs⟩) (by obtain ⟨v, hv, ho⟩ := q4.r2; exact ⟨v, hv, sets15 ho hWs⟩) (by obtain ⟨v, hv, ho⟩ := q4.r3; exact ⟨v, hv, sets15 ho hWs⟩) (by obtain ⟨v, hv, ho⟩ := q4.r4; exact ⟨v, hv, sets15 ho hWs⟩) (by obtain ⟨v, hv, ho⟩ := q4.r5; exact ⟨v, hv, sets15 ho hWs⟩) (by obtain ⟨v, hv, ho⟩ := q4.r6; exact ⟨v, hv, sets15 ho hWs⟩) (by obtain ⟨v, hv, ho⟩ := q4.r7; exact ⟨v, hv, sets15 ho hWs⟩) (by obtain ⟨v, hv, ho⟩ := q4.r8; exact ⟨v, hv, sets15 ho hWs⟩) (by obtain ⟨v, hv, ho⟩ := q4.r9; exact ⟨v, hv, sets15 ho hWs⟩) (by obtain ⟨v, hv, ho⟩ := q4.r10; exact ⟨v, hv, sets15 ho hWs⟩) (by obtain ⟨v, hv, ho⟩ := q4.r11; exact ⟨v, hv, sets15 ho hWs⟩) (by obtain ⟨v, hv, ho⟩ := q4.r12; exact ⟨v, hv, sets15 ho hWs⟩) (by obtain ⟨v, hv, ho⟩ := q4.r13; exact ⟨v, hv, sets15 ho hWs⟩) q4.n14
    · have h0b : (en != 0) = true := by simpa using h0
      go_wp2
      refine bodyPost_ret (v := .tuple #[.agg #[.slice none 0 0, .slice none 0 0, .slice none 0 0, .slice none 0 0, .slice none 0 0, .slice none 0 0, .slice none 0 0, .slice none 0 0, .slice none 0 0, .slice none 0 0, .slice none 0 0, .slice none 0 0, .slice none 0 0, .slice none 0 0, .int .i64 0], .int .i64 en]) (by simp [results, Tryz.results13, go_sem, r0, r1, r2, r3, r4, r5, r6, r7, r8, r9, r10, r11, r12, r13, r14]) rfl ?_
      have q3 := HQ.out
      have hbel : Below w.heap.size w w2 := ((Fr.of_below (own := fun i => i = w.heap.size + 1 ∨ i = w.heap.size + 1 + 1) HG.out.2.2.2).trans q3 fun i hi => .inl hi).below fun i hi => by rcases hi with e | e <;> omega
      have hn : ¬endN (hS D) = 0 := fun e => h0 (by rw [HE.out]; exact e)
      refine ⟨(((((((((((((((hbel).setCell (p := ⟨w.heap.size, 0, none⟩) (Nat.le_refl _) _).setCell (p := ⟨w.heap.size, 1, none⟩) (Nat.le_refl _) _).setCell (p := ⟨w.heap.size, 2, none⟩) (Nat.le_refl _) _).setCell (p := ⟨w.heap.size, 3, none⟩) (Nat.le_refl _) _).setCell (p := ⟨w.heap.size, 4, none⟩) (Nat.le_refl _) _).setCell (p := ⟨w.heap.size, 5, none⟩) (Nat.le_refl _) _).setCell (p := ⟨w.heap.size, 6, none⟩) (Nat.le_refl _) _).setCell (p := ⟨w.heap.size, 7, none⟩) (Nat.le_refl _) _).setCell (p := ⟨w.heap.size, 8, none⟩) (Nat.le_refl _) _).setCell (p := ⟨w.heap.size, 9, none⟩) (Nat.le_refl _) _).setCell (p := ⟨w.heap.size, 10, none⟩) (Nat.le_refl _) _).setCell (p := ⟨w.heap.size, 11, none⟩) (Nat.le_refl _) _).setCell (p := ⟨w.heap.size, 12, none⟩) (Nat.le_refl _) _).setCell (p := ⟨w.heap.size, 13, none⟩) (Nat.le_refl _) _).setCell (p := ⟨w.heap.size, 14, none⟩) (Nat.le_refl _) _, [.slice none 0 0, .slice none 0 0, .slice none 0 0, .slice none 0 0, .slice none 0 0, .slice none 0 0, .slice none 0 0, .slice none 0 0, .slice none 0 0, .slice none 0 0, .slice none 0 0, .slice none 0 0, .slice none 0 0, .slice none 0 0, .int .i64 0], ?_, ?_⟩
      · rw [HE.out]; rfl
      · have e1 : hR D = fun _ => [] := funext fun j => by unfold hR; rw [if_neg hn]
        have e2 : hZ D = 0 := by unfold hZ; rw [if_neg hn]
        rw [e1, e2]
        exact houseA_nil _
/-- A house's bytes. -/
def encHouse (R : Nat → List (List Value)) (z : Int) : List UInt8 := enc_house (R 0) (R 1) (R 2) (R 3) (R 4) (R 5) (R 6) (R 7) (R 8) (R 9) (R 10) (R 11) (R 12) (R 13) z
theorem RowA.rowWs {w w1 : World} {bb : Nat} {vs : List Value} {R : Nat → List (List Value)} {z : Int} (h : HouseA w vs R z) (b : Below w.heap.size w w1) (j : Nat) (hj : j < 14) : RowW w.heap.size bb w1 vs[j]? (szJ j) (ksJ j) (R j) := by
  obtain ⟨A, c, e, hr⟩ := h.row j hj
  rw [e]
  exact hr.rowW b
set_option maxHeartbeats 16000000 in
set_option maxRecDepth 100000 in
theorem bytes_any {vs : List Value} {R : Nat → List (List Value)} {z : Int} {w : World} (h : HouseA w vs R z) (hl : (encHouse R z).length ≤ 140737488355328) :
    Calls Tryz.prog 8 #[.agg vs.toArray] w fun e w' => e = .returned (.string ⟨(encHouse R z).toArray⟩) ∧ Below w.heap.size w w' := by
  have HA := Aside0.mk h
  have HL := Aside0.mk hl
  have hv := h.len
  clear h hl
  match vs, hv with
  | [x0, x1, x2, x3, x4, x5, x6, x7, x8, x9, x10, x11, x12, x13, x14], _ =>
  go_enter Tryz.func8, Tryz.ntmps8
  go_wp2_with (fail)
  obtain ⟨W, hW⟩ : ∃ W, W = ((w.alloc (.cells #[x0, x1, x2, x3, x4, x5, x6, x7, x8, x9, x10, x11, x12, x13, x14] 37)).alloc (.cells #[.pointer none, .slice none 0 0] 108)).alloc (.cells #[.pointer (some ⟨w.heap.size + 1, 0, none⟩), .string ⟨#[]⟩, .bool false] 110) := ⟨_, rfl⟩
  have hB : Below w.heap.size w W := by rw [hW]; exact (((Below.refl _ w).alloc (Nat.le_refl _) _).alloc (by simp) _).alloc (by simp; omega) _
  have g0 : Cs w.heap.size 37 [x0, x1, x2, x3, x4, x5, x6, x7, x8, x9, x10, x11, x12, x13, x14] W := by
    rw [hW]
    exact Cs.keep (Cs.keep (cs_alloc w _ _ _ rfl) ((alloc_below _ _).block _ (by simp))) ((alloc_below _ _).block _ (by simp; omega))
  have g1 : Lib.IsBuilder 108 5 w.heap.size (w.heap.size + 1) (Lib.byteCells []) W := by
    rw [hW]
    refine .inl ⟨Nat.le_succ _, .slice none 0 0, ?_, World.ownsRow_nil _ _ _ _, by simp [Value.ownBlock]⟩
    have k := heap_alloc_new (w.alloc (.cells #[x0, x1, x2, x3, x4, x5, x6, x7, x8, x9, x10, x11, x12, x13, x14] 37)) (.cells #[.pointer none, .slice none 0 0] 108)
    have e : (w.alloc (.cells #[x0, x1, x2, x3, x4, x5, x6, x7, x8, x9, x10, x11, x12, x13, x14] 37)).heap.size = w.heap.size + 1 := by simp
    rw [e] at k
    exact ((alloc_below _ _).block _ (by simp)).trans k
  have g2 : Cs (w.heap.size + 1 + 1) 110 [.pointer (some ⟨w.heap.size + 1, 0, none⟩), .string ⟨#[]⟩, .bool false] W := by
    rw [hW]
    have := cs_alloc ((w.alloc (.cells #[x0, x1, x2, x3, x4, x5, x6, x7, x8, x9, x10, x11, x12, x13, x14] 37)).alloc (.cells #[.pointer none, .slice none 0 0] 108)) #[.pointer (some ⟨w.heap.size + 1, 0, none⟩), .string ⟨#[]⟩, .bool false] 110 _ rfl
    simpa using this
  have HWr : Aside0 (Wr w.heap.size (w.heap.size + 1 + 1) (w.heap.size + 1) [] W) := ⟨⟨g2, g1, hB.size⟩⟩
  have HG := Aside0.mk (And.intro g0 hB)
  rw [← hW]
  clear hW g0 g1 g2 hB
  refine (house_w HWr.out HG.out.1 HA.out.num (RowA.rowWs HA.out HG.out.2 0 (by decide)) (RowA.rowWs HA.out HG.out.2 1 (by decide)) (RowA.rowWs HA.out HG.out.2 2 (by decide)) (RowA.rowWs HA.out HG.out.2 3 (by decide)) (RowA.rowWs HA.out HG.out.2 4 (by decide)) (RowA.rowWs HA.out HG.out.2 5 (by decide)) (RowA.rowWs HA.out HG.out.2 6 (by decide)) (RowA.rowWs HA.out HG.out.2 7 (by decide)) (RowA.rowWs HA.out HG.out.2 8 (by decide)) (RowA.rowWs HA.out HG.out.2 9 (by decide)) (RowA.rowWs HA.out HG.out.2 10 (by decide)) (RowA.rowWs HA.out HG.out.2 11 (by decide)) (RowA.rowWs HA.out HG.out.2 12 (by decide)) (RowA.rowWs HA.out HG.out.2 13 (by decide)) (by have := HL.out; unfold encHouse at this; simpa using this)).mono ?_
  rintro e w1 ⟨rfl, p1, p2⟩
  have HP := Aside0.mk (And.intro p1 p2)
  clear p1 p2
  have k0 := HP.out.1.out
  go_wp2_with (go_at_call 31; refine (Tryz.Builder_String_any _ _ _ _ HP.out.1.hb HP.out.1.le).mono ?_; rintro e w2 ⟨rfl, hw2⟩; have HQ := Aside0.mk hw2; clear hw2)
  go_ret
  exact ⟨rfl, HG.out.2.trans (HP.out.2.below.trans HQ.out)⟩
end Go.Proofs.YtgdoodeibcfcjaaGreat.Wire
