/- The codec's numbers and texts: fold, unfold, nums.Put of one number, nums.Text, nums.Take, nums.TakeText, zeros: walked by hand. -/
import Derived.Test.YtgdoodeibcfcjaaGreatDOwn
import Derived.Test.YtgdoodeibcfcjaaGreatDBldB
import Derived.Test.YtgdoodeibcfcjaaGreatShelf
import Derived.Deep.QuietTactic
import Derived.BigQuiet
import Derived.Deep.DeepCutAuto
import Derived.Deep.CutBlock
import Derived.Laws.MakeOwn
import Derived.IntWalk
set_option linter.unusedVariables false
set_option linter.unusedSimpArgs false
namespace Go.Proofs.YtgdoodeibcfcjaaGreat.Wire
open Go.RowKit Go.Proofs.YtgdoodeibcfcjaaGreat.NumsPure Go.Proofs.YtgdoodeibcfcjaaGreat.CPure Go.Proofs.YtgdoodeibcfcjaaGreat.Own
open Go.Proofs.YtgdoodeibcfcjaaGreat.Put (digits digits_lt digits_ge digits_len cells_snoc low_byte high_byte or128)
theorem max2_i (k k' : IntKind) (x y : Int) : Builtin.max2 (.int k x) (.int k' y) = pure (.int k (if x < y then y else x)) := by simp only [Builtin.max2, gt_iff_lt]
theorem min2_i (k k' : IntKind) (x y : Int) : Builtin.min2 (.int k x) (.int k' y) = pure (.int k (if y < x then y else x)) := by simp only [Builtin.min2]
theorem maxTwo (ats : Array TypeId) (ty : TypeId) (a b : Value) : Builtin.max_ ats ty #[a, b] = (Builtin.max2 a b >>= fun s => pure s) := by simp only [Builtin.max_, List.foldlM_cons, List.foldlM_nil]
theorem minTwo (ats : Array TypeId) (ty : TypeId) (a b : Value) : Builtin.min_ ats ty #[a, b] = (Builtin.min2 a b >>= fun s => pure s) := by simp only [Builtin.min_, List.foldlM_cons, List.foldlM_nil]
attribute [local go_sem] max2_i min2_i maxTwo minTwo
theorem retI {a b : Int} (h : a = b) : Ending.returned (.int .i64 a) = .returned (.int .i64 b) := by rw [h]
theorem fold_any (z : Int) (w : World) : Calls Tryz.prog 98 #[.int .i64 z] w fun e w' => e = .returned (.int .i64 (foldN z : Int)) ∧ Below w.heap.size w w' := by
  have HM : Aside0 ((foldN z : Int) = if clampN z < 0 then -2 * clampN z - 1 else 2 * clampN z) := ⟨by have := clamp_bd z; unfold foldN; split <;> omega⟩
  rcases (show z < -4611686018427387904 ∨ 4611686018427387903 < z ∨ (-4611686018427387904 ≤ z ∧ z < 0) ∨ (0 ≤ z ∧ z ≤ 4611686018427387903) from by omega) with h | h | ⟨h, h'⟩ | ⟨h, h'⟩
  all_goals
    go_enter Tryz.func98, Tryz.ntmps98
    go_wp2
    all_goals
      go_ret
      exact ⟨retI (by rw [HM.out]; unfold clampN; (try unfold wrap64); split <;> omega), Below.refl _ _⟩
theorem unfold_any (n : Nat) (h : n < 9223372036854775808) (w : World) : Calls Tryz.prog 99 #[.int .i64 (n : Int)] w fun e w' => e = .returned (.int .i64 (unfoldN n)) ∧ Below w.heap.size w w' := by
  have hn0 : (0 : Int) ≤ (n : Int) := by omega
  have hn1 : (n : Int) ≤ 9223372036854775807 := by omega
  by_cases h2 : n % 2 = 0
  · have HM : Aside0 (unfoldN n = (n : Int) / 2) := ⟨by unfold unfoldN; rw [if_neg (by omega)]; omega⟩
    have h2b : ((n : Int) % 2 != 0) = false := by simp; omega
    clear h2
    go_enter Tryz.func99, Tryz.ntmps99
    go_wp2
    go_ret
    exact ⟨retI (by rw [HM.out]), Below.refl _ _⟩
  · have HM : Aside0 (unfoldN n = -((n : Int) / 2) - 1) := ⟨by unfold unfoldN; rw [if_pos (by omega)]; omega⟩
    have h2b : ((n : Int) % 2 != 0) = true := by simp; omega
    clear h2
    go_enter Tryz.func99, Tryz.ntmps99
    go_wp2
    go_ret
    exact ⟨retI (by rw [HM.out]), Below.refl _ _⟩
set_option maxHeartbeats 2000000 in
set_option maxRecDepth 100000 in
/-- nums.Put of one number that stands in memory. -/
theorem put_any (n : Nat) (h : n < 9223372036854775808) (g : Nat) (w : World) (hc : w.cell? ⟨g, 0, none⟩ = some (.int .i64 (n : Int))) :
    Calls Tryz.prog 94 #[.slice (some ⟨g, 0, none⟩) 1 1] w fun e w' => e = .returned (.string ⟨(digits n).toArray⟩) ∧ Below w.heap.size w w' := by
  have hn1 : (n : Int) ≤ 9223372036854775807 := by omega
  have hn0 : ¬(n : Int) < 0 := by omega
  have hg := World.block_lt_of_cell? w _ hc
  have HC := Aside0.mk hc
  have HL : Aside0 ((digits n).length ≤ 9) := ⟨digits_le 8 n (by omega)⟩
  clear hc h
  go_enter Tryz.func94, Tryz.ntmps94
  go_wp2
  go_loopw [8] (fun v8 wr => ∃ i : Nat, i ≤ 1 ∧ v8 = .int .i64 (i : Int) ∧ Aside0 (Lib.IsBuilder 108 5 w.heap.size w.heap.size (Lib.byteCells (if i = 0 then [] else digits n)) wr) ∧ Aside0 (Below w.heap.size w wr)) (fun v8 _ => 1 - (intOf v8).toNat)
  case atStart => exact ⟨0, by omega, rfl, ⟨Lib.fresh_isBuilder 108 5 w⟩, ⟨(Below.refl _ w).alloc (Nat.le_refl _) _⟩⟩
  case round =>
    obtain ⟨i, hi, rfl, HB, HW⟩ := hrel
    by_cases hlt : i = 0
    · subst hlt
      have hx : wr.cell? ⟨g, 0, none⟩ = some (.int .i64 (n : Int)) := (HW.out.cell hg).trans HC.out
      go_wp2_with fail
      clear hx
      obtain ⟨wo, rfl⟩ : ∃ wo : World, wo = wr := ⟨_, rfl⟩
      go_loopw [5] (fun v5 wr => ∃ (m : Int) (acc : List UInt8), 0 ≤ m ∧ v5 = .int .i64 m ∧ Aside0 (acc ++ digits m.toNat = digits n) ∧ Aside0 (Lib.IsBuilder 108 5 w.heap.size w.heap.size (Lib.byteCells acc) wr) ∧ Aside0 (Below w.heap.size w wr)) (fun v5 _ => (intOf v5).toNat)
      case atStart => exact ⟨n, [], by omega, rfl, ⟨by simp⟩, ⟨by have := HB.out; simpa using this⟩, HW⟩
      case round =>
        clear HB HW
        obtain ⟨m, acc, hm0, rfl, HS, HB, HW⟩ := hrel
        by_cases hge : m < 128
        · have HD : Aside0 (digits m.toNat = [UInt8.ofNat m.toNat]) := ⟨digits_lt (by omega)⟩
          go_wp2_with (go_at_call 100; refine (BldS.writeByteK w.heap.size w.heap.size _ _ _ HB.out (by have h1 := HS.out; have h2 := HL.out; rw [← h1, List.length_append] at h2; have := digits_len m.toNat; rw [Lib.byteCells_length]; omega) HW.out.size).mono ?_; rintro e w1 ⟨rfl, hb1, hw1, -⟩; have HB1 := Aside0.mk hb1; have HW1 := Aside0.mk hw1; clear hb1 hw1)
          go_roundw
          case rel => exact ⟨1, by omega, rfl, ⟨.inr (by rw [if_neg (by decide), ← HS.out, HD.out, cells_snoc, ← low_byte m hm0 hge, Int.emod_eq_of_lt hm0 (by omega)]; exact HB1.out)⟩, ⟨HW.out.trans HW1.out⟩⟩
          case measure => simp [intOf]
        · go_wp2_with (go_at_call 100; refine (BldS.writeByteK w.heap.size w.heap.size _ _ _ HB.out (by have h1 := HS.out; have h2 := HL.out; rw [← h1, List.length_append] at h2; have := digits_len m.toNat; rw [Lib.byteCells_length]; omega) HW.out.size).mono ?_; rintro e w1 ⟨rfl, hb1, hw1, -⟩; have HB1 := Aside0.mk hb1; have HW1 := Aside0.mk hw1; clear hb1 hw1)
          go_roundw
          case rel => exact ⟨m / 128, acc ++ [UInt8.ofNat (m.toNat % 128 + 128)], by omega, rfl, ⟨by rw [← HS.out, digits_ge (n := m.toNat) (by omega), List.append_assoc, show (m / 128).toNat = m.toNat / 128 from by omega]; rfl⟩, ⟨.inr (by rw [cells_snoc, ← high_byte m hm0, ← or128]; exact HB1.out)⟩, ⟨HW.out.trans HW1.out⟩⟩
          case measure => simp [intOf]; omega
    · obtain rfl : i = 1 := by omega
      go_wp2_with fail
      refine (Tryz.Builder_String_any _ _ _ _ HB.out HW.out.size).mono ?_
      rintro e w1 ⟨rfl, hw1⟩
      go_wp2
      go_ret
      exact ⟨rfl, HW.out.trans hw1⟩
set_option maxRecDepth 100000 in
theorem text_any (s : ByteArray) (h : s.size ≤ 140737488355328) (w : World) : Calls Tryz.prog 96 #[.string s] w fun e w' => e = .returned (.string ⟨(textB s).toArray⟩) ∧ Below w.heap.size w w' := by
  have HE : Aside0 ((⟨(digits s.size).toArray⟩ : ByteArray) ++ s = ⟨(textB s).toArray⟩) := ⟨by unfold textB; rw [← ba_append, ba_eta]⟩
  have HL : Aside0 ((digits s.size).length ≤ 9) := ⟨digits_le 8 s.size (by omega)⟩
  obtain ⟨P, hP⟩ : ∃ P : ByteArray, P = ⟨(digits s.size).toArray⟩ := ⟨_, rfl⟩
  have hPs : P.size ≤ 9 := by rw [hP, size_mk]; exact HL.out
  have cp := fun g (w : World) hc => put_any s.size (by omega) g w hc
  rw [← hP] at HE cp
  have CP := Aside0.mk cp
  clear hP cp
  go_enter Tryz.func96, Tryz.ntmps96
  go_wp2_with (go_at_call 94; refine (CP.out _ _ (by simp)).mono ?_; rintro e w1 ⟨rfl, hb⟩; have HB := Aside0.mk hb; clear hb)
  go_ret
  exact ⟨by rw [← HE.out]; rfl, ((Below.refl _ w).alloc (Nat.le_refl _) _).trans (HB.out.mono (by simp))⟩
set_option maxRecDepth 100000 in
theorem zeros_any (n : Nat) (hn : n ≤ 1000) (w : World) : Calls Tryz.prog 14 #[.int .i64 (n : Int)] w fun e w' => e = .returned (.string ⟨(List.replicate n 0).toArray⟩) ∧ Below w.heap.size w w' := by
  obtain ⟨i0, hi, hz0, hz1, hz2⟩ := BldS.infoParts BldS.infoByte
  have hmk : ∀ w : World, (Instr.makeSlice 106 (.int .i64 (n : Int)) (.int .i64 (n : Int))).run Tryz.prog w = .ok (.slice (some ⟨w.heap.size, 0, none⟩) n n) (w.alloc (.cells (madeCells #[.int .u8 0] n) 5)) := fun w => by
    have := run_makeSlice (P := Tryz.prog) w 106 5 i0 (.int .u8 0) Tryz.underlying106 hi hz0 .i64 .i64 (n : Int) (n : Int) (by omega) (Int.le_refl _) (by rw [hz1]; omega) (by rw [hz2]; omega) (by omega)
    rw [hz1] at this
    simpa [Value.cells] using this
  have hcv : ∀ w : World, (convert 106 9 (.slice (some ⟨w.heap.size, 0, none⟩) n n)).run Tryz.prog (w.alloc (.cells (madeCells #[.int .u8 0] n) 5)) = .ok (.string ⟨(List.replicate n 0).toArray⟩) (w.alloc (.cells (madeCells #[.int .u8 0] n) 5)) := fun w => by
    have := run_convert_bytes_back (P := Tryz.prog) (w.alloc (.cells (madeCells #[.int .u8 0] n) 5)) 106 9 5 ⟨w.heap.size, 0, none⟩ n (List.replicate n 0) Tryz.underlying106 Tryz.underlying5 Tryz.underlying9 (fun j hj => by
      have hjn : j < n := by simpa using hj
      have e : (⟨w.heap.size, 0, none⟩ : Addr).add j = ⟨w.heap.size, j, none⟩ := by unfold Addr.add; split <;> simp_all
      have hb := heap_alloc_new w (.cells (madeCells #[.int .u8 0] n) 5)
      rw [e]
      have ht := toList_madeCells_one (.int .u8 0) n
      have hg : (madeCells #[.int .u8 0] n)[j]? = some (.int .u8 0) := by
        rw [← Array.getElem?_toList, ht, List.getElem?_replicate, if_pos hjn]
      simp only [World.cell?, hb]
      simp [hg])
    simpa using this
  have hn0 : (0 : Int) ≤ (n : Int) := by omega
  go_enter Tryz.func14, Tryz.ntmps14
  go_wp2_with (fail)
  go_ret
  exact ⟨rfl, (Below.refl _ w).alloc (Nat.le_refl _) _⟩
theorem at_i (D : List UInt8) (i : Nat) (c : UInt8) (h : D[i]? = some c) (w : World) : (Instr.index 9 (.string ⟨D.toArray⟩) (.int .i64 (i : Int))).run Tryz.prog w = .ok (.int .u8 (c.toNat : Int)) w := by
  have hl : i < D.length := (List.getElem?_eq_some_iff.1 h).1
  have hs : (⟨D.toArray⟩ : ByteArray).size = D.length := size_mk D
  rw [run_index_string (P := Tryz.prog) (w := w) 9 ⟨D.toArray⟩ .i64 (i : Int) Tryz.underlying9]
  have e : (⟨D.toArray⟩ : ByteArray)[i]'(by rw [hs]; exact hl) = c := by
    have := (List.getElem?_eq_some_iff.1 h).2
    show D.toArray[i]'_ = c
    simpa using this
  rw [dif_pos ⟨by omega, by omega⟩]
  simp [e]
theorem scan (D : List UInt8) : (∃ e c, e < 9 ∧ D[e]? = some c ∧ c.toNat < 128 ∧ ∀ j, j < e → ∃ c', D[j]? = some c' ∧ 128 ≤ c'.toNat) ∨ (∀ j c, j < 9 → D[j]? = some c → 128 ≤ c.toNat) := by
  have key : ∀ k, k ≤ 9 → (∃ e c, e < k ∧ D[e]? = some c ∧ c.toNat < 128 ∧ ∀ j, j < e → ∃ c', D[j]? = some c' ∧ 128 ≤ c'.toNat) ∨ (∀ j c, j < k → D[j]? = some c → 128 ≤ c.toNat) := by
    intro k
    induction k with
    | zero => intro _; exact .inr fun j c hj => by omega
    | succ k ih =>
      intro hk
      rcases ih (by omega) with ⟨e, c, he, h1, h2, h3⟩ | h
      · exact .inl ⟨e, c, by omega, h1, h2, h3⟩
      · cases hc : D[k]? with
        | none =>
          refine .inr fun j c hj hjc => ?_
          by_cases e : j = k
          · subst e; rw [hc] at hjc; cases hjc
          · exact h j c (by omega) hjc
        | some c =>
          by_cases h2 : c.toNat < 128
          · refine .inl ⟨k, c, by omega, hc, h2, fun j hj => ?_⟩
            have hl : j < D.length := by have := (List.getElem?_eq_some_iff.1 hc).1; omega
            exact ⟨D[j], List.getElem?_eq_getElem hl, h j _ hj (List.getElem?_eq_getElem hl)⟩
          · refine .inr fun j c' hj hjc => ?_
            by_cases e : j = k
            · subst e; rw [hc] at hjc; cases hjc; omega
            · exact h j c' (by omega) hjc
  exact key 9 (Nat.le_refl _)
def jm : Nat → Int
  | 0 => -1
  | k + 1 => (k : Int)
/-- Three results. -/
def Ret3 (t : Int × ByteArray × Int) (w : World) (e : Ending) (w' : World) : Prop := e = .returned (.tuple #[.int .i64 t.1, .string t.2.1, .int .i64 t.2.2]) ∧ Below w.heap.size w w'
set_option maxHeartbeats 4000000 in
set_option maxRecDepth 100000 in
theorem take_any (D : List UInt8) (hl : D.length ≤ 1000000000000) (w : World) : Calls Tryz.prog 102 #[.string ⟨D.toArray⟩] w (Ret3 (takeA (T true 9 D)) w) := by
  have hAt := at_i D
  obtain ⟨S, hS⟩ : ∃ S : ByteArray, S = ⟨D.toArray⟩ := ⟨_, rfl⟩
  rw [← hS] at hAt ⊢
  have hn : S.size = D.length := by rw [hS]; exact size_mk D
  obtain ⟨n, hnn⟩ : ∃ n, n = D.length := ⟨_, rfl⟩
  rw [← hnn] at hn hl
  have HS := Aside0.mk hS
  have HN := Aside0.mk hnn
  have HAT := Aside0.mk hAt
  clear hS hnn hAt
  rcases scan D with ⟨e, c, he, hc, hlt, hbef⟩ | hall
  · have hen : e < n := by rw [HN.out]; exact (List.getElem?_eq_some_iff.1 hc).1
    have HT : Aside0 (T true 9 D = if c.toNat = 0 ∧ 0 < e then none else some (V (D.take (e + 1)), D.drop (e + 1))) := ⟨by rw [T_at e true 9 D he hbef c hc hlt]; simp⟩
    have HX : Aside0 (S.extract (e + 1) S.size = ⟨(D.drop (e + 1)).toArray⟩) := ⟨by
      have := extract_drop S (e + 1) (by omega)
      rw [this]
      have e2 : S.data.toList = D := by rw [HS.out]
      rw [e2]⟩
    have HC := Aside0.mk (And.intro hc hbef)
    have hci : (c.toNat : Int) < 128 := by omega
    have hix := HAT.out e c hc
    clear hc hbef
    by_cases h9 : 9 < n
    all_goals
      go_enter Tryz.func102, Tryz.ntmps102
      go_wp2_with (fail)
      go_loop [12, 5] (fun v12 v5 => ∃ i : Nat, i ≤ e ∧ v12 = .int .i64 i ∧ v5 = .int .i64 (-1)) (fun v12 _ => 9 - (intOf v12).toNat)
      case atStart => exact ⟨0, by omega, rfl, rfl⟩
      case round =>
        obtain ⟨i, hi, rfl, rfl⟩ := hrel
        by_cases hie : i < e
        · obtain ⟨c', hc', hge⟩ := HC.out.2 i hie
          have hix' := HAT.out i c' hc'
          have hge' : ¬ (c'.toNat : Int) < 128 := by omega
          clear hc'
          go_wp2
          go_round
          case rel => exact ⟨i + 1, by omega, by go_num, rfl⟩
          case measure => simp [intOf]; omega
        · obtain rfl : i = e := by omega
          by_cases hz : c.toNat = 0 ∧ 0 < i
          · obtain ⟨hz1, hz2⟩ := hz
            have HT2 : Aside0 (T true 9 D = none) := ⟨by rw [HT.out, if_pos ⟨hz1, hz2⟩]⟩
            have hz1' : (c.toNat : Int) = 0 := by omega
            rw [hz1'] at hix
            clear hz1 hz1'
            go_wp2
            go_ret3
            rw [HT2.out]
            exact ⟨rfl, Below.refl _ _⟩
          · have HT2 : Aside0 (T true 9 D = some (V (D.take (i + 1)), D.drop (i + 1))) := ⟨by rw [HT.out, if_neg hz]⟩
            rcases (show ¬ 0 < i ∨ (0 < i ∧ c.toNat ≠ 0) from by omega) with h0 | ⟨h0, hcz⟩
            all_goals
              (try have hcz' : ((c.toNat : Int) == 0) = false := by simpa using hcz)
              (try clear hcz)
              clear hz
              go_wp2_with (fail)
              go_loop [7, 8] (fun v7 v8 => ∃ j x : Nat, j ≤ i + 1 ∧ Aside0 (x * 128 ^ j + V (D.take j) = V (D.take (i + 1))) ∧ Aside0 (x < 128 ^ (i + 1 - j)) ∧ v7 = .int .i64 (x : Int) ∧ v8 = .int .i64 (jm j)) (fun _ v8 => (intOf v8 + 1).toNat)
              case atStart => exact ⟨i + 1, 0, Nat.le_refl _, ⟨by simp⟩, ⟨by simp⟩, rfl, rfl⟩
              case round =>
                obtain ⟨j, x, hj, HV, HB, rfl, rfl⟩ := hrel
                cases j with
                | zero =>
                  simp only [jm]
                  have hx : x = V (D.take (i + 1)) := by have := HV.out; simpa [V] using this
                  have HRR : Aside0 (takeA (T true 9 D) = ((x : Int), S.extract (i + 1) S.size, 0)) := ⟨by rw [HT2.out, HX.out, hx]; rfl⟩
                  clear hx
                  go_wp2_with (fail)
                  have hw1 : IntKind.i64.wrap ((i : Int) + 1) = (i : Int) + 1 := IntWalk.i64_in _ (by omega)
                  have hw2 : (0 : Int) ≤ (i : Int) + 1 := by omega
                  have hw3 : ((i : Int) + 1).toNat = i + 1 := by omega
                  have hw4 : (i : Int) + 1 ≤ (n : Int) := by omega
                  go_quiet (fail)
                  clear hw1 hw2 hw3 hw4
                  go_wp2
                  go_ret3
                  rw [HRR.out]
                  exact ⟨by rw [hn]; rfl, ⟨rfl, rfl, rfl, Nat.le_refl _, fun _ _ => rfl⟩⟩
                | succ j =>
                  simp only [jm]
                  obtain ⟨c', hc'⟩ : ∃ c', D[j]? = some c' := ⟨_, List.getElem?_eq_getElem (by have := HN.out; omega)⟩
                  have hix' := HAT.out j c' hc'
                  have hand := andNot128 c'.toNat c'.toNat_lt
                  have HC' := Aside0.mk hc'
                  have hxb : (x : Int) ≤ 72057594037927935 := by
                    have h1 := HB.out
                    have h2 : 128 ^ (i + 1 - (j + 1)) ≤ 128 ^ 8 := Nat.pow_le_pow_right (by decide) (by omega)
                    have : (128 : Nat) ^ 8 = 72057594037927936 := by decide
                    omega
                  clear hc'
                  go_wp2
                  go_round
                  case rel =>
                    have hlen : (D.take j).length = j := by rw [List.length_take]; have := HN.out; omega
                    refine ⟨j, x * 128 + c'.toNat % 128, by omega, ⟨?_⟩, ⟨?_⟩, ?_, ?_⟩
                    · have h1 := HV.out
                      rw [take_snoc' D j c' HC'.out, V_snoc, hlen, Nat.pow_succ] at h1
                      have e1 : (x * 128 + c'.toNat % 128) * 128 ^ j = x * (128 ^ j * 128) + 128 ^ j * (c'.toNat % 128) := by
                        rw [Nat.add_mul, Nat.mul_assoc, Nat.mul_comm 128 (128 ^ j), Nat.mul_comm (c'.toNat % 128)]
                      omega
                    · have h1 := HB.out
                      rw [show i + 1 - j = (i + 1 - (j + 1)) + 1 from by omega, Nat.pow_succ]
                      omega
                    · have h := or_add x (c'.toNat % 128) 7 (by omega) (by omega)
                      rw [show x * 2 ^ 7 = x * 128 from rfl] at h
                      have e1 : ((x * 128 : Nat) : Int) = (x : Int) * 128 := by omega
                      have e2 : ((c'.toNat % 128 : Nat) : Int) = (c'.toNat : Int) % 128 := by omega
                      rw [e1, e2] at h
                      rw [h]
                    · cases j with
                      | zero => rfl
                      | succ j => exact congrArg (Value.int .i64) (by simp only [jm]; omega)
                  case measure => (first | (simp [intOf]; done) | (simp [intOf]; omega))
  · have HT : Aside0 (T true 9 D = none) := ⟨T_none 9 true D hall⟩
    have HALL := Aside0.mk hall
    clear hall
    by_cases h9 : 9 < n
    all_goals
      go_enter Tryz.func102, Tryz.ntmps102
      go_wp2_with (fail)
      go_loop [12, 5] (fun v12 v5 => ∃ i : Nat, i ≤ 9 ∧ i ≤ n ∧ v12 = .int .i64 i ∧ v5 = .int .i64 (-1)) (fun v12 _ => 9 - (intOf v12).toNat)
      case atStart => exact ⟨0, by omega, by omega, rfl, rfl⟩
      case round =>
        obtain ⟨i, hi, hi2, rfl, rfl⟩ := hrel
        by_cases hlt : i < 9 ∧ i < n
        · obtain ⟨hl1, hl2⟩ := hlt
          obtain ⟨c, hc⟩ : ∃ c, D[i]? = some c := ⟨_, List.getElem?_eq_getElem (by have := HN.out; omega)⟩
          have hix := HAT.out i c hc
          have hge : ¬ (c.toNat : Int) < 128 := by have := HALL.out i c hl1 hc; omega
          clear hc
          go_wp2
          go_round
          case rel => exact ⟨i + 1, by omega, by omega, by go_num, rfl⟩
          case measure => simp [intOf]; omega
        · go_wp2
          go_ret3
          rw [HT.out]
          exact ⟨rfl, Below.refl _ _⟩
def Ret3s (t : ByteArray × ByteArray × Int) (w : World) (e : Ending) (w' : World) : Prop := e = .returned (.tuple #[.string t.1, .string t.2.1, .int .i64 t.2.2]) ∧ Below w.heap.size w w'
set_option maxHeartbeats 4000000 in
set_option maxRecDepth 100000 in
theorem takeText_any (D : List UInt8) (hl : D.length ≤ 1000000000000) (w : World) : Calls Tryz.prog 97 #[.string ⟨D.toArray⟩] w (Ret3s (textA (T true 9 D)) w) := by
  have ct := take_any D hl
  obtain ⟨S, hS⟩ : ∃ S : ByteArray, S = ⟨D.toArray⟩ := ⟨_, rfl⟩
  rw [← hS] at ct ⊢
  clear hS
  cases hT : T true 9 D with
  | none =>
    rw [hT] at ct
    simp only [takeA] at ct
    clear hT
    go_enter Tryz.func97, Tryz.ntmps97
    go_wp2_with (go_at_call 102; refine (ct _).mono ?_; rintro e w1 ⟨rfl, hb⟩; have HB := Aside0.mk hb; clear hb)
    go_ret3
    exact ⟨rfl, HB.out⟩
  | some p =>
    obtain ⟨k, r⟩ := p
    rw [hT] at ct
    simp only [takeA] at ct
    have hk : k < 9223372036854775808 := by have := T_lt hT; rw [p9] at this; exact this
    have hrl : r.length ≤ 1000000000000 := by
      have := (digits_T 9 true _ _ _ hT).1
      have e := congrArg List.length this
      rw [List.length_append] at e
      omega
    clear hT
    obtain ⟨R, hR⟩ : ∃ R : ByteArray, R = ⟨r.toArray⟩ := ⟨_, rfl⟩
    have hRs : R.size = r.length := by rw [hR]; exact size_mk r
    rw [← hR] at ct
    by_cases hgt : r.length < k
    · have HA : Aside0 (textA (some (k, r)) = ((⟨#[]⟩ : ByteArray), (⟨#[]⟩ : ByteArray), 44)) := ⟨by simp only [textA]; rw [if_pos (by omega)]⟩
      have hg : (R.size : Int) < (k : Int) := by omega
      clear hR hRs
      go_enter Tryz.func97, Tryz.ntmps97
      go_wp2_with (go_at_call 102; refine (ct _).mono ?_; rintro e w1 ⟨rfl, hb⟩; have HB := Aside0.mk hb; clear hb)
      go_ret3
      rw [HA.out]
      exact ⟨rfl, HB.out⟩
    · have HA : Aside0 (textA (some (k, r)) = (R.extract 0 k, R.extract k R.size, 0)) := ⟨by
        simp only [textA]
        rw [if_neg (by omega), hR, extract_take r k (by omega), extract_rest r k (by omega)]⟩
      have hg : (k : Int) ≤ (R.size : Int) := by omega
      have hg2 : ¬(R.size : Int) < (k : Int) := by omega
      have hk0 : (0 : Int) ≤ (k : Int) := by omega
      clear hR hRs
      go_enter Tryz.func97, Tryz.ntmps97
      go_wp2_with (go_at_call 102; refine (ct _).mono ?_; rintro e w1 ⟨rfl, hb⟩; have HB := Aside0.mk hb; clear hb)
      go_quiet (fail)
      go_wp2
      go_ret3
      rw [HA.out]
      exact ⟨rfl, ⟨HB.out.os, HB.out.tape, HB.out.output, HB.out.size, HB.out.block⟩⟩
end Go.Proofs.YtgdoodeibcfcjaaGreat.Wire
