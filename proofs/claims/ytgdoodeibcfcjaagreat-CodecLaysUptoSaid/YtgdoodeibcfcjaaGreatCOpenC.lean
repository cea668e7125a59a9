/- A command among the arguments. -/
import Derived.SliceStrings
import Derived.ChangeSlices
import Derived.Lib.SmallJoins
import Derived.Test.YtgdoodeibcfcjaaGreatCRCmdB
import Derived.Test.YtgdoodeibcfcjaaGreatRows
set_option linter.unusedVariables false
set_option linter.unusedSimpArgs false
namespace Go.Proofs.YtgdoodeibcfcjaaGreat.Wire
open Go.RowKit Go.ChangeShapes Go.WideShapes Go.Joins Go.Proofs.YtgdoodeibcfcjaaGreat.NumsPure Go.Proofs.YtgdoodeibcfcjaaGreat.CPure Go.Proofs.YtgdoodeibcfcjaaGreat.Own
open Go.Proofs.YtgdoodeibcfcjaaGreat.Put (digits digits_lt digits_ge)
def InI (z : Int) : Prop := -9223372036854775808 ≤ z ∧ z ≤ 9223372036854775807
theorem wfI {z : Int} (h : (Lit.int .i64 z).wf = true) : InI z := wf64 h
def CmdOk (W : World) (v : Value) : Prop := ∃ (op : Int) (A1 : Option Addr) (c1 : Nat) (R1 : List (List Value)) (A2 : Option Addr) (c2 : Nat) (R2 : List (List Value)), v = .agg #[.int .i64 op, .slice A1 R1.length c1, .slice A2 R2.length c2] ∧ RowA W A1 1 ks_str c1 R1 ∧ RowA W A2 1 ks_int c2 R2 ∧ (enc_cmd R1 R2 op).length ≤ 100000000 ∧ InI op ∧ (∀ z, [.int .i64 z] ∈ R2 → InI z)
theorem bulk_strs {H : Type} : ∀ l : List ByteArray, Rows.uptoBulkAll (strs (H := H) l) = (l.map ByteArray.size).sum + l.length
  | [] => rfl
  | s :: l => by
    have e9 : s.data.toList.length = s.size := Array.length_toList
    show Rows.uptoBulk (.lit (.string s.data.toList)) + Rows.uptoBulkAll (strs l) = _
    rw [bulk_strs l]
    simp only [Rows.uptoBulk, List.map_cons, List.sum_cons, List.length_cons, e9]
    omega
theorem bulk_lits {H : Type} {k : IntKind} : ∀ l : List Int, Rows.uptoBulkAll (lits (H := H) k l) = l.length
  | [] => rfl
  | z :: l => by
    show Rows.uptoBulk (.lit (.int k z)) + Rows.uptoBulkAll (lits k l) = _
    rw [bulk_lits l]
    simp only [Rows.uptoBulk, List.length_cons]
    omega
theorem len_strs : ∀ l : List ByteArray, (l.map ByteArray.size).sum + l.length ≤ 1048576 → ((l.map fun s => [Value.string s]).flatMap encs).length ≤ 11 * ((l.map ByteArray.size).sum + l.length)
  | [], _ => by simp
  | s :: l, h => by
    simp only [List.map_cons, List.sum_cons, List.length_cons] at h
    have ih := len_strs l (by omega)
    have e9 : s.data.toList.length = s.size := Array.length_toList
    have hd : (digits s.size).length ≤ 10 := digits_le 9 _ (by omega)
    simp only [List.map_cons, List.sum_cons, List.length_cons, List.flatMap_cons, List.length_append, encs_str]
    unfold textB
    rw [List.length_append, e9]
    omega
theorem len_ints : ∀ l : List Int, ((l.map fun z => [Value.int .i64 z]).flatMap encs).length ≤ 10 * l.length
  | [] => by simp
  | z :: l => by
    have ih := len_ints l
    have hd : (digits (foldN z)).length ≤ 10 := digits_le 9 _ (by have := clamp_bd z; unfold foldN; split <;> omega)
    simp only [List.map_cons, List.length_cons, List.flatMap_cons, List.length_append, encs_int]
    omega
section
variable {H : Type} {enc : TypeId × Value → H} {W : World} {base : Nat} {held : Bool}
theorem row_of {A : Addr} {k : K} {c : Nat} {vs : List Value} (hc : ∀ i, i < vs.length → W.cell? (A.add i) = vs[i]?) (hl : vs.length ≤ c) (hk : ∀ v ∈ vs, IsK k v) (hf : vs.length ≤ 1048576) : RowA W (some A) 1 [k] c (vs.map fun v => [v]) := by
  refine ⟨fun h0 => ⟨A, rfl, ?_, fun i x hx m v hv => ?_⟩, by rw [List.length_map]; exact hl, fun x hx => ?_, by rw [List.length_map]; omega⟩
  · rw [List.length_map] at h0
    have := hc 0 h0
    rw [List.getElem?_eq_getElem h0] at this
    have h2 := World.block_lt_of_cell? W _ this
    rw [block_of_add] at h2
    exact h2
  · rw [List.getElem?_map] at hx
    cases hv0 : vs[i]? with
    | none => rw [hv0] at hx; cases hx
    | some u =>
      rw [hv0] at hx
      obtain rfl : [u] = x := by simpa using hx
      have hm : m = 0 := by have := (List.getElem?_eq_some_iff.1 hv).1; simpa using this
      subst hm
      obtain rfl : u = v := by simpa using hv
      have hi := (List.getElem?_eq_some_iff.1 hv0).1
      rw [Nat.mul_one, Nat.add_zero, hc i hi, hv0]
  · obtain ⟨v, hv, rfl⟩ := List.mem_map.1 hx
    exact ⟨v, [], rfl, hk v hv, rfl⟩
theorem open_texts {fuel : Nat} {v : Value} {y : DataW H × List MemPlace} (h : DataW.trod enc Tryz.prog W base (fun _ => true) held fuel 38 [v] = some y) (hk : Rows.uptoBulk y.1 ≤ 1048576) :
    ∃ (A : Option Addr) (c : Nat) (R : List (List Value)), v = .slice A R.length c ∧ RowA W A 1 ks_str c R ∧ (R.flatMap encs).length ≤ 11534336 ∧ R.length ≤ 1048576 := by
  rcases open_strings Tryz.underlying38 Tryz.underlying9 (by kernel_rfl) h with ⟨e, rfl⟩ | ⟨a, len, cap, ss, e, _, hl, hm, hz, rfl, hcell, _⟩
  · obtain rfl : v = .slice none 0 0 := by simpa using e
    exact ⟨none, 0, [], rfl, ⟨fun h => absurd h (by simp), Nat.le_refl _, fun x hx => (by cases hx), by simp⟩, by simp, by simp⟩
  · obtain rfl : v = .slice (some a) len cap := by simpa using e
    simp only [if_true] at hz
    simp only [Rows.uptoBulk, bulk_strs] at hk
    have e1 : (ss.take len).length = len := by rw [List.length_take]; omega
    have hs := len_strs (ss.take len) (by omega)
    refine ⟨some a, cap, ((ss.take len).map Value.string).map fun v => [v], by rw [List.length_map, List.length_map, e1], row_of (fun i hi => ?_) (by simp; omega) (fun v hv => ?_) (by simp; omega), ?_, by simp; omega⟩
    · have hi' : i < len := by rw [List.length_map, e1] at hi; exact hi
      rw [hcell i (by omega), List.getElem?_map, List.getElem?_take, if_pos hi', List.getD, List.getElem?_eq_getElem (by omega)]
      rfl
    · obtain ⟨s, _, rfl⟩ := List.mem_map.1 hv
      exact ⟨s, rfl⟩
    · rw [List.map_map]
      exact Nat.le_trans hs (by omega)
theorem open_nums {fuel : Nat} {v : Value} {y : DataW H × List MemPlace} (h : DataW.trod enc Tryz.prog W base (fun _ => true) held fuel 39 [v] = some y) (hk : Rows.uptoBulk y.1 ≤ 1048576) :
    ∃ (A : Option Addr) (c : Nat) (R : List (List Value)), v = .slice A R.length c ∧ RowA W A 1 ks_int c R ∧ (R.flatMap encs).length ≤ 11534336 ∧ R.length ≤ 1048576 ∧ (∀ z, [.int .i64 z] ∈ R → InI z) := by
  rcases open_ints Tryz.underlying39 Tryz.underlying3 (by kernel_rfl) h with ⟨e, rfl⟩ | ⟨a, len, cap, zs, e, _, hl, hm, hz, rfl, hcell, hwf⟩
  · obtain rfl : v = .slice none 0 0 := by simpa using e
    exact ⟨none, 0, [], rfl, ⟨fun h => absurd h (by simp), Nat.le_refl _, fun x hx => (by cases hx), by simp⟩, by simp, by simp, fun z hz => (by cases hz)⟩
  · obtain rfl : v = .slice (some a) len cap := by simpa using e
    simp only [if_true] at hz
    simp only [Rows.uptoBulk, bulk_lits] at hk
    have e1 : (zs.take len).length = len := by rw [List.length_take]; omega
    have hs := len_ints (zs.take len)
    refine ⟨some a, cap, ((zs.take len).map (Value.int .i64)).map fun v => [v], by rw [List.length_map, List.length_map, e1], row_of (fun i hi => ?_) (by simp; omega) (fun v hv => ?_) (by simp; omega), ?_, by simp; omega, ?_⟩
    · have hi' : i < len := by rw [List.length_map, e1] at hi; exact hi
      rw [hcell i (by omega), List.getElem?_map, List.getElem?_take, if_pos hi', List.getD, List.getElem?_eq_getElem (by omega)]
      rfl
    · obtain ⟨s, _, rfl⟩ := List.mem_map.1 hv
      exact ⟨s, rfl⟩
    · rw [List.map_map]
      exact Nat.le_trans hs (by omega)
    · intro z hz
      rw [List.map_map] at hz
      obtain ⟨z', hz', e⟩ := List.mem_map.1 hz
      obtain rfl : z' = z := by simpa using e
      exact wfI (hwf z' (List.mem_of_mem_take hz'))
set_option maxRecDepth 100000 in
theorem open_cmd {b0 : Nat} {r : Reach} {v : Value} {d : DataW H} {ps : List MemPlace} (hv : Value.okWide Tryz.prog W r b0 41 v) (h : DataW.Trod enc Tryz.prog W base (fun _ => true) held 41 v d ps) (hk : Rows.uptoBulk d ≤ 1048576) : CmdOk W v := by
  obtain ⟨v0, v1, v2, y0, y1, y2, n, rfl, rfl, rfl, h0, h1, h2⟩ := open_agg3 Tryz.underlying41 (by kernel_rfl) (by kernel_rfl) hv h
  obtain ⟨op, e0, rfl, hw⟩ := DataW.trod_int Tryz.underlying3 h0
  obtain rfl : v0 = .int .i64 op := by simpa using e0
  simp only [Rows.uptoBulk, Rows.uptoBulkAll] at hk
  obtain ⟨A1, c1, R1, rfl, r1, l1, m1⟩ := open_texts h1 (by omega)
  obtain ⟨A2, c2, R2, rfl, r2, l2, m2, w2⟩ := open_nums h2 (by omega)
  refine ⟨op, A1, c1, R1, A2, c2, R2, rfl, r1, r2, ?_, wfI hw, w2⟩
  have d1 : (digits (foldN op)).length ≤ 10 := digits_le 9 _ (by have := clamp_bd op; unfold foldN; split <;> omega)
  have d2 : (digits R1.length).length ≤ 10 := digits_le 9 _ (by omega)
  have d3 : (digits R2.length).length ≤ 10 := digits_le 9 _ (by omega)
  unfold enc_cmd encRows
  simp only [List.length_append]
  omega
end
end Go.Proofs.YtgdoodeibcfcjaaGreat.Wire
