/- A house among the arguments. -/
import Derived.Test.YtgdoodeibcfcjaaGreatCOpenC
import Derived.Test.YtgdoodeibcfcjaaGreatCBackPure
import Derived.Test.YtgdoodeibcfcjaaGreatCTJ
import Derived.Deep.Slices
import Derived.Deep.Fields
set_option linter.unusedVariables false
set_option linter.unusedSimpArgs false
namespace Go.Proofs.YtgdoodeibcfcjaaGreat.Wire
open Go.RowKit Go.ChangeShapes Go.WideShapes Go.Joins Go.Proofs.YtgdoodeibcfcjaaGreat.NumsPure Go.Proofs.YtgdoodeibcfcjaaGreat.CPure Go.Proofs.YtgdoodeibcfcjaaGreat.Own
open Go.Proofs.YtgdoodeibcfcjaaGreat.Put (digits digits_lt digits_ge)
def wtV : Value → Nat
  | .string s => s.size + 1
  | _ => 1
def wt (vs : List Value) : Nat := (vs.map wtV).sum
theorem wt_append (a b : List Value) : wt (a ++ b) = wt a + wt b := by simp [wt]
section
variable {H : Type} (enc : TypeId × Value → H) (W : World) (base : Nat) (held : Bool)
/-- A value of this type is a row of cells of these kinds; its datum's bulk bounds them. -/
def Flat (T : TypeId) (ks : List K) : Prop := ∀ (fuel : Nat) (cs : List Value) (y : DataW H × List MemPlace), DataW.trod enc Tryz.prog W base (fun _ => true) held fuel T cs = some y → Fits ks cs ∧ wt cs ≤ Rows.uptoBulk y.1
theorem flat_t : Flat enc W base held 9 [.t] := fun fuel cs y h => by
  obtain ⟨s, e, rfl, _⟩ := DataW.trod_string Tryz.underlying9 h
  subst e
  refine ⟨⟨_, _, rfl, ⟨s, rfl⟩, rfl⟩, ?_⟩
  have e9 : s.data.toList.length = s.size := Array.length_toList
  simp [wt, wtV, Rows.uptoBulk]
theorem flat_n : Flat enc W base held 3 [.n] := fun fuel cs y h => by
  obtain ⟨s, e, rfl, _⟩ := DataW.trod_int Tryz.underlying3 h
  subst e
  exact ⟨⟨_, _, rfl, ⟨s, rfl⟩, rfl⟩, by simp [wt, wtV, Rows.uptoBulk]⟩
theorem flat_b : Flat enc W base held 4 [.b] := fun fuel cs y h => by
  obtain ⟨s, e, rfl⟩ := DataW.trod_bool Tryz.underlying4 h
  subst e
  exact ⟨⟨_, _, rfl, ⟨s, rfl⟩, rfl⟩, by simp [wt, wtV, Rows.uptoBulk]⟩
/-- The fields of a struct, one behind the other. -/
def FlatL : Nat → List Field → List (List K) → Prop
  | _, [], [] => True
  | o, f :: fs, k :: ks => Flat enc W base held f.type k ∧ f.offset = o ∧ Tryz.prog.cellsOf f.type = k.length ∧ FlatL (o + k.length) fs ks
  | _, _, _ => False
variable {enc W base held}
theorem flat_fields : ∀ (fs : List Field) (kss : List (List K)) (o : Nat) (cs : List Value) (xs : List (DataW H × List MemPlace)) (n : Nat), FlatL enc W base held o fs kss → xs.length = fs.length →
    (∀ (i : Nat) (f : Field), fs[i]? = some f → DataW.trod enc Tryz.prog W base (fun _ => true) held n f.type ((cs.drop f.offset).take (Tryz.prog.cellsOf f.type)) = xs[i]?) → cs.length = o + kss.flatten.length →
    Fits kss.flatten (cs.drop o) ∧ wt (cs.drop o) ≤ Rows.uptoBulkAll (xs.map (·.1))
  | [], [], o, cs, xs, n, _, _, _, hl => by
    have e : cs.drop o = [] := List.drop_eq_nil_of_le (by simp at hl; omega)
    rw [e]
    exact ⟨rfl, by simp [wt]⟩
  | f :: fs, k :: ks, o, cs, [], n, _, hx, _, _ => by simp at hx
  | f :: fs, k :: ks, o, cs, x :: xs, n, ⟨h1, h2, h3, h4⟩, hx, hh, hl => by
    have q := hh 0 f rfl
    rw [h2, h3] at q
    obtain ⟨q1, q2⟩ := h1 n _ x q
    obtain ⟨r1, r2⟩ := flat_fields fs ks (o + k.length) cs xs n h4 (by simpa using hx) (fun i g hg => hh (i + 1) g hg) (by rw [List.flatten_cons, List.length_append] at hl; omega)
    have e : cs.drop o = (cs.drop o).take k.length ++ cs.drop (o + k.length) := by
      rw [← List.drop_drop, List.take_append_drop]
    rw [e]
    refine ⟨fits_append q1 r1, ?_⟩
    rw [wt_append]
    simp only [List.map_cons, Rows.uptoBulkAll]
    omega
  | [], _ :: _, _, _, _, _, h, _, _, _ => h.elim
  | _ :: _, [], _, _, _, _, h, _, _, _ => h.elim
theorem flat_struct {T : TypeId} {fs : Array Field} {kss : List (List K)} (hu : Tryz.prog.underlying T = some (.struct fs)) (hC : Tryz.prog.cellsOf T = kss.flatten.length) (h : FlatL enc W base held 0 fs.toList kss) : Flat enc W base held T kss.flatten := fun fuel cs y ht => by
  obtain ⟨xs, n, _, rfl, hl, hx, hf⟩ := DataW.trod_struct hu ht
  have := flat_fields fs.toList kss 0 cs xs n h (by simpa using hx) (fun i f hi => hf i f (by simpa using hi)) (by rw [hl, hC]; omega)
  refine ⟨by simpa using this.1, ?_⟩
  have h2 := this.2
  simp only [List.drop_zero] at h2
  simp only [Rows.uptoBulk]
  omega
theorem flat_items {e : TypeId} {k : List K} (he : Flat enc W base held e k) (hc : Tryz.prog.cellsOf e = k.length) : ∀ (n o : Nat) (cs : List Value) (xs : List (DataW H × List MemPlace)) (m : Nat), xs.length = n →
    (∀ i, i < n → DataW.trod enc Tryz.prog W base (fun _ => true) held m e ((cs.drop (o + i * k.length)).take k.length) = xs[i]?) → cs.length = o + n * k.length →
    Fits (List.replicate n k).flatten (cs.drop o) ∧ wt (cs.drop o) ≤ Rows.uptoBulkAll (xs.map (·.1))
  | 0, o, cs, xs, m, _, _, hl => by
    have e : cs.drop o = [] := List.drop_eq_nil_of_le (by simp at hl; omega)
    rw [e]
    exact ⟨rfl, by simp [wt]⟩
  | n + 1, o, cs, [], m, hx, _, _ => by simp at hx
  | n + 1, o, cs, x :: xs, m, hx, hh, hl => by
    have q := hh 0 (by omega)
    rw [Nat.zero_mul, Nat.add_zero] at q
    obtain ⟨q1, q2⟩ := he m _ x q
    obtain ⟨r1, r2⟩ := flat_items he hc n (o + k.length) cs xs m (by simpa using hx) (fun i hi => by
      have := hh (i + 1) (by omega)
      rw [show o + (i + 1) * k.length = o + k.length + i * k.length from by rw [Nat.add_mul]; omega] at this
      exact this) (by rw [Nat.add_mul] at hl; omega)
    have e : cs.drop o = (cs.drop o).take k.length ++ cs.drop (o + k.length) := by
      rw [← List.drop_drop, List.take_append_drop]
    rw [e, List.replicate_succ, List.flatten_cons]
    refine ⟨fits_append q1 r1, ?_⟩
    rw [wt_append]
    simp only [List.map_cons, Rows.uptoBulkAll]
    omega
theorem flat_array {T e : TypeId} {n : Nat} {k : List K} (hu : Tryz.prog.underlying T = some (.array n e)) (hC : Tryz.prog.cellsOf T = n * k.length) (hc : Tryz.prog.cellsOf e = k.length) (he : Flat enc W base held e k) : Flat enc W base held T (List.replicate n k).flatten := fun fuel cs y ht => by
  obtain ⟨xs, m, _, rfl, hl, hx, hf⟩ := DataW.trod_array hu ht
  have := flat_items he hc n 0 cs xs m hx (fun i hi => by rw [Nat.zero_add, ← hc]; exact hf i hi) (by rw [hl, hC]; omega)
  refine ⟨by simpa using this.1, ?_⟩
  have h2 := this.2
  simp only [List.drop_zero] at h2
  simp only [Rows.uptoBulk]
  omega
theorem ct : Tryz.prog.cellsOf 9 = 1 := by kernel_rfl
theorem cn : Tryz.prog.cellsOf 3 = 1 := by kernel_rfl
theorem cb : Tryz.prog.cellsOf 4 = 1 := by kernel_rfl
theorem ck : Tryz.prog.cellsOf 71 = 4 := by kernel_rfl
theorem cu : Tryz.prog.cellsOf 56 = 2 := by kernel_rfl
theorem cl : Tryz.prog.cellsOf 79 = 6 := by kernel_rfl
theorem cus : Tryz.prog.cellsOf 57 = 8 := by kernel_rfl
theorem cls : Tryz.prog.cellsOf 80 = 48 := by kernel_rfl
variable (enc W base held)
theorem flat_key : Flat enc W base held 71 ([[K.t], [K.t], [K.t], [K.n]] : List (List K)).flatten := flat_struct Tryz.underlying71 (by kernel_rfl) ⟨flat_t _ _ _ _, rfl, ct, ⟨flat_t _ _ _ _, rfl, ct, ⟨flat_t _ _ _ _, rfl, ct, ⟨flat_n _ _ _ _, rfl, cn, trivial⟩⟩⟩⟩
theorem flat_unit : Flat enc W base held 56 ([[K.t], [K.n]] : List (List K)).flatten := flat_struct Tryz.underlying56 (by kernel_rfl) ⟨flat_t _ _ _ _, rfl, ct, ⟨flat_n _ _ _ _, rfl, cn, trivial⟩⟩
theorem flat_line : Flat enc W base held 79 ([[K.t], [K.n], [K.n], [K.n], [K.n], [K.n]] : List (List K)).flatten := flat_struct Tryz.underlying79 (by kernel_rfl) ⟨flat_t _ _ _ _, rfl, ct, ⟨flat_n _ _ _ _, rfl, cn, ⟨flat_n _ _ _ _, rfl, cn, ⟨flat_n _ _ _ _, rfl, cn, ⟨flat_n _ _ _ _, rfl, cn, ⟨flat_n _ _ _ _, rfl, cn, trivial⟩⟩⟩⟩⟩⟩
theorem flat_units : Flat enc W base held 57 (List.replicate 4 ([[K.t], [K.n]] : List (List K)).flatten).flatten := flat_array Tryz.underlying57 cus cu (flat_unit _ _ _ _)
theorem flat_lines : Flat enc W base held 80 (List.replicate 8 ([[K.t], [K.n], [K.n], [K.n], [K.n], [K.n]] : List (List K)).flatten).flatten := flat_array Tryz.underlying80 cls cl (flat_line _ _ _ _)
theorem flat_item : Flat enc W base held 59 ([[K.t], (List.replicate 4 ([[K.t], [K.n]] : List (List K)).flatten).flatten, [K.n], [K.n], [K.b], [K.b], [K.b]] : List (List K)).flatten := flat_struct Tryz.underlying59 (by kernel_rfl) ⟨flat_t _ _ _ _, rfl, ct, ⟨flat_units _ _ _ _, rfl, cus, ⟨flat_n _ _ _ _, rfl, cn, ⟨flat_n _ _ _ _, rfl, cn, ⟨flat_b _ _ _ _, rfl, cb, ⟨flat_b _ _ _ _, rfl, cb, ⟨flat_b _ _ _ _, rfl, cb, trivial⟩⟩⟩⟩⟩⟩⟩
theorem flat_lot : Flat enc W base held 62 ([[K.t], [K.t], [K.n]] : List (List K)).flatten := flat_struct Tryz.underlying62 (by kernel_rfl) ⟨flat_t _ _ _ _, rfl, ct, ⟨flat_t _ _ _ _, rfl, ct, ⟨flat_n _ _ _ _, rfl, cn, trivial⟩⟩⟩
theorem flat_zone : Flat enc W base held 65 ([[K.t], [K.t]] : List (List K)).flatten := flat_struct Tryz.underlying65 (by kernel_rfl) ⟨flat_t _ _ _ _, rfl, ct, ⟨flat_t _ _ _ _, rfl, ct, trivial⟩⟩
theorem flat_bin : Flat enc W base held 68 ([[K.t], [K.t], [K.n], [K.n], [K.n], [K.n], [K.n], [K.b]] : List (List K)).flatten := flat_struct Tryz.underlying68 (by kernel_rfl) ⟨flat_t _ _ _ _, rfl, ct, ⟨flat_t _ _ _ _, rfl, ct, ⟨flat_n _ _ _ _, rfl, cn, ⟨flat_n _ _ _ _, rfl, cn, ⟨flat_n _ _ _ _, rfl, cn, ⟨flat_n _ _ _ _, rfl, cn, ⟨flat_n _ _ _ _, rfl, cn, ⟨flat_b _ _ _ _, rfl, cb, trivial⟩⟩⟩⟩⟩⟩⟩⟩
theorem flat_quant : Flat enc W base held 73 ([([[K.t], [K.t], [K.t], [K.n]] : List (List K)).flatten, [K.n], [K.n]] : List (List K)).flatten := flat_struct Tryz.underlying73 (by kernel_rfl) ⟨flat_key _ _ _ _, rfl, ck, ⟨flat_n _ _ _ _, rfl, cn, ⟨flat_n _ _ _ _, rfl, cn, trivial⟩⟩⟩
theorem flat_rule : Flat enc W base held 76 ([[K.t], [K.t], [K.n]] : List (List K)).flatten := flat_struct Tryz.underlying76 (by kernel_rfl) ⟨flat_t _ _ _ _, rfl, ct, ⟨flat_t _ _ _ _, rfl, ct, ⟨flat_n _ _ _ _, rfl, cn, trivial⟩⟩⟩
theorem flat_notice : Flat enc W base held 82 ([[K.t], [K.t], (List.replicate 8 ([[K.t], [K.n], [K.n], [K.n], [K.n], [K.n]] : List (List K)).flatten).flatten, [K.b]] : List (List K)).flatten := flat_struct Tryz.underlying82 (by kernel_rfl) ⟨flat_t _ _ _ _, rfl, ct, ⟨flat_t _ _ _ _, rfl, ct, ⟨flat_lines _ _ _ _, rfl, cls, ⟨flat_b _ _ _ _, rfl, cb, trivial⟩⟩⟩⟩
theorem flat_order : Flat enc W base held 85 ([[K.t], [K.t], (List.replicate 8 ([[K.t], [K.n], [K.n], [K.n], [K.n], [K.n]] : List (List K)).flatten).flatten] : List (List K)).flatten := flat_struct Tryz.underlying85 (by kernel_rfl) ⟨flat_t _ _ _ _, rfl, ct, ⟨flat_t _ _ _ _, rfl, ct, ⟨flat_lines _ _ _ _, rfl, cls, trivial⟩⟩⟩
theorem flat_claim : Flat enc W base held 88 ([[K.t], [K.n], ([[K.t], [K.t], [K.t], [K.n]] : List (List K)).flatten, [K.n], [K.n]] : List (List K)).flatten := flat_struct Tryz.underlying88 (by kernel_rfl) ⟨flat_t _ _ _ _, rfl, ct, ⟨flat_n _ _ _ _, rfl, cn, ⟨flat_key _ _ _ _, rfl, ck, ⟨flat_n _ _ _ _, rfl, cn, ⟨flat_n _ _ _ _, rfl, cn, trivial⟩⟩⟩⟩⟩
theorem flat_task : Flat enc W base held 91 ([[K.n], [K.n], [K.t], [K.n], ([[K.t], [K.t], [K.t], [K.n]] : List (List K)).flatten, [K.t], [K.n], [K.t]] : List (List K)).flatten := flat_struct Tryz.underlying91 (by kernel_rfl) ⟨flat_n _ _ _ _, rfl, cn, ⟨flat_n _ _ _ _, rfl, cn, ⟨flat_t _ _ _ _, rfl, ct, ⟨flat_n _ _ _ _, rfl, cn, ⟨flat_key _ _ _ _, rfl, ck, ⟨flat_t _ _ _ _, rfl, ct, ⟨flat_n _ _ _ _, rfl, cn, ⟨flat_t _ _ _ _, rfl, ct, trivial⟩⟩⟩⟩⟩⟩⟩⟩
theorem flat_parcel : Flat enc W base held 94 ([[K.t], [K.t]] : List (List K)).flatten := flat_struct Tryz.underlying94 (by kernel_rfl) ⟨flat_t _ _ _ _, rfl, ct, ⟨flat_t _ _ _ _, rfl, ct, trivial⟩⟩
theorem flat_sent : Flat enc W base held 97 ([[K.t], [K.t], [K.t], [K.n], [K.n]] : List (List K)).flatten := flat_struct Tryz.underlying97 (by kernel_rfl) ⟨flat_t _ _ _ _, rfl, ct, ⟨flat_t _ _ _ _, rfl, ct, ⟨flat_t _ _ _ _, rfl, ct, ⟨flat_n _ _ _ _, rfl, cn, ⟨flat_n _ _ _ _, rfl, cn, trivial⟩⟩⟩⟩⟩
theorem flat_counted : Flat enc W base held 100 ([([[K.t], [K.t], [K.t], [K.n]] : List (List K)).flatten, [K.n]] : List (List K)).flatten := flat_struct Tryz.underlying100 (by kernel_rfl) ⟨flat_key _ _ _ _, rfl, ck, ⟨flat_n _ _ _ _, rfl, cn, trivial⟩⟩
theorem flat_total : Flat enc W base held 103 ([[K.t], [K.t], [K.n], [K.n], [K.n], [K.n]] : List (List K)).flatten := flat_struct Tryz.underlying103 (by kernel_rfl) ⟨flat_t _ _ _ _, rfl, ct, ⟨flat_t _ _ _ _, rfl, ct, ⟨flat_n _ _ _ _, rfl, cn, ⟨flat_n _ _ _ _, rfl, cn, ⟨flat_n _ _ _ _, rfl, cn, ⟨flat_n _ _ _ _, rfl, cn, trivial⟩⟩⟩⟩⟩⟩
theorem flatJ : ∀ j, j < 14 → Flat enc W base held (TJ' j) (ksJ j) := by
  intro j hj
  have : j = 0 ∨ j = 1 ∨ j = 2 ∨ j = 3 ∨ j = 4 ∨ j = 5 ∨ j = 6 ∨ j = 7 ∨ j = 8 ∨ j = 9 ∨ j = 10 ∨ j = 11 ∨ j = 12 ∨ j = 13 := by omega
  rcases this with rfl | rfl | rfl | rfl | rfl | rfl | rfl | rfl | rfl | rfl | rfl | rfl | rfl | rfl
  · exact flat_item _ _ _ _
  · exact flat_lot _ _ _ _
  · exact flat_zone _ _ _ _
  · exact flat_bin _ _ _ _
  · exact flat_quant _ _ _ _
  · exact flat_rule _ _ _ _
  · exact flat_notice _ _ _ _
  · exact flat_order _ _ _ _
  · exact flat_claim _ _ _ _
  · exact flat_task _ _ _ _
  · exact flat_parcel _ _ _ _
  · exact flat_sent _ _ _ _
  · exact flat_counted _ _ _ _
  · exact flat_total _ _ _ _
variable {enc W base held}
theorem sum_bulk (D : Nat → DataW H) (f : Nat → List Value) : ∀ l : List Nat, (∀ i ∈ l, wt (f i) ≤ Rows.uptoBulk (D i)) → ((l.map f).map wt).sum ≤ Rows.uptoBulkAll (l.map D)
  | [], _ => Nat.le_refl _
  | i :: l, h => by
    have ih := sum_bulk D f l fun k hk => h k (by simp [hk])
    have h1 := h i (by simp)
    simp only [List.map_cons, List.sum_cons, Rows.uptoBulkAll]
    omega
theorem len_bulk (D : Nat → DataW H) : ∀ l : List Nat, l.length ≤ Rows.uptoBulkAll (l.map D)
  | [] => Nat.le_refl _
  | i :: l => by
    have ih := len_bulk D l
    have h1 : 1 ≤ Rows.uptoBulk (D i) := by
      cases D i with
      | lit l => cases l <;> simp [Rows.uptoBulk]
      | nil => simp [Rows.uptoBulk]
      | ptr d => simp [Rows.uptoBulk]
      | slice a b => simp [Rows.uptoBulk]
      | agg a => simp [Rows.uptoBulk]
      | iface a b => simp [Rows.uptoBulk]
      | map a => simp [Rows.uptoBulk]
      | held a => simp [Rows.uptoBulk]
    simp only [List.map_cons, List.length_cons, Rows.uptoBulkAll]
    omega
theorem open_flat {S T : TypeId} {ks : List K} (hu : Tryz.prog.underlying S = some (.slice T)) (hf : Flat enc W base held T ks) (hc : Tryz.prog.cellsOf T = ks.length) (h0 : 0 < ks.length) {fuel : Nat} {v : Value} {y : DataW H × List MemPlace}
    (h : DataW.trod enc Tryz.prog W base (fun _ => true) held fuel S [v] = some y) (hk : Rows.uptoBulk y.1 ≤ 1048576) :
    ∃ (A : Option Addr) (c : Nat) (R : List (List Value)), v = .slice A R.length c ∧ RowA W A ks.length ks c R ∧ (R.map wt).sum ≤ Rows.uptoBulk y.1 := by
  rcases Go.Deep.open_slice hu h with ⟨e, rfl⟩ | ⟨a, len, cap, m, n, D, Pl, e, _, hl, hm, hmm, rfl, hi⟩
  · obtain rfl : v = .slice none 0 0 := by simpa using e
    exact ⟨none, 0, [], rfl, ⟨fun h => absurd h (by simp), Nat.le_refl _, fun x hx => (by cases hx), by simp⟩, by simp⟩
  · obtain rfl : v = .slice (some a) len cap := by simpa using e
    simp only [if_true] at hmm
    subst hmm
    rw [hc] at hi
    obtain ⟨f, hfs⟩ : ∃ f : Nat → List Value, ∀ i, i < m → W.cells? base (a.add (i * ks.length)) ks.length = some (f i) ∧ DataW.trod enc Tryz.prog W base (fun _ => true) held n T (f i) = some (D i, Pl i) :=
      ⟨fun i => if q : i < m then (hi i q).choose else [], fun i q => by simp only [dif_pos q]; exact (hi i q).choose_spec⟩
    simp only [Rows.uptoBulk] at hk
    have hlen := len_bulk D (List.range len)
    rw [List.length_range] at hlen
    have hsum := sum_bulk D f (List.range len) fun i q => (hf n (f i) _ (hfs i (by have := List.mem_range.1 q; omega)).2).2
    refine ⟨some a, m, (List.range len).map f, by rw [List.length_map, List.length_range], ⟨fun hpos => ?_, by rw [List.length_map, List.length_range]; exact hl, fun x hx => ?_, by rw [List.length_map, List.length_range]; omega⟩, by simp only [Rows.uptoBulk]; omega⟩
    · rw [List.length_map, List.length_range] at hpos
      have hat : ∀ i, i < len → ∀ j u, (f i)[j]? = some u → W.cell? (a.add (i * ks.length + j)) = some u := fun i q j u hu => by
        obtain ⟨_, hcl, hat⟩ := World.cells?_some (hfs i (by omega)).1
        have hj : j < ks.length := by have := (List.getElem?_eq_some_iff.1 hu).1; omega
        have := hat j hj
        rw [Go.Deep.add_add] at this
        rw [this, hu]
      refine ⟨a, rfl, ?_, fun i x hx j u hu => ?_⟩
      · have hfl := fits_len (hf n (f 0) _ (hfs 0 (by omega)).2).1
        obtain ⟨u, hu⟩ : ∃ u, (f 0)[0]? = some u := ⟨_, List.getElem?_eq_getElem (by omega)⟩
        have h2 := World.block_lt_of_cell? W _ (hat 0 hpos 0 u hu)
        rw [block_of_add] at h2
        exact h2
      · rw [List.getElem?_map] at hx
        by_cases q : i < len
        · rw [List.getElem?_range q] at hx
          obtain rfl : f i = x := by simpa using hx
          exact hat i q j u hu
        · rw [List.getElem?_eq_none (by rw [List.length_range]; omega)] at hx
          cases hx
    · obtain ⟨i, q, rfl⟩ := List.mem_map.1 hx
      exact (hf n (f i) _ (hfs i (by have := List.mem_range.1 q; omega)).2).1
theorem wt_encs : ∀ (ks : List K) (x : List Value), Fits ks x → wt x ≤ 1048576 → (encs x).length ≤ 11 * wt x ∧ ∀ v ∈ x, Short v
  | [], x, h, _ => by rw [show x = [] from h]; exact ⟨by simp [encs], fun v hv => (by cases hv)⟩
  | k :: ks, x, h, hw => by
    obtain ⟨v, r, rfl, hk, hr⟩ := h
    have e : wt (v :: r) = wtV v + wt r := by simp [wt]
    rw [e] at hw ⊢
    obtain ⟨h1, h2⟩ := wt_encs ks r hr (by omega)
    have h3 : (encV v).length ≤ 11 * wtV v ∧ Short v := by
      cases k with
      | t =>
        obtain ⟨s, rfl⟩ := hk
        have e9 : s.data.toList.length = s.size := Array.length_toList
        have hs : s.size ≤ 1048576 := by simp only [wtV] at hw; omega
        have hd : (digits s.size).length ≤ 10 := digits_le 9 _ (by omega)
        refine ⟨?_, ?_⟩
        · simp only [encV, textB, List.length_append, e9, wtV]; omega
        · show s.size < 9223372036854775808; omega
      | n =>
        obtain ⟨z, rfl⟩ := hk
        have hd : (digits (foldN z)).length ≤ 10 := digits_le 9 _ (by have := foldN_lt z; omega)
        exact ⟨by simp only [encV, wtV]; omega, trivial⟩
      | b =>
        obtain ⟨z, rfl⟩ := hk
        exact ⟨by simp [encV, wtV], trivial⟩
    rw [encs_cons, List.length_append]
    refine ⟨by omega, fun u hu => ?_⟩
    rcases List.mem_cons.1 hu with rfl | hu
    · exact h3.2
    · exact h2 u hu
theorem rows_encs (ks : List K) : ∀ R : List (List Value), (∀ x ∈ R, Fits ks x) → (R.map wt).sum ≤ 1048576 → (R.flatMap encs).length ≤ 11 * (R.map wt).sum ∧ ∀ x ∈ R, ∀ v ∈ x, Short v
  | [], _, _ => ⟨by simp, fun x hx => (by cases hx)⟩
  | x :: R, h, hw => by
    simp only [List.map_cons, List.sum_cons] at hw ⊢
    obtain ⟨h1, h2⟩ := rows_encs ks R (fun y hy => h y (by simp [hy])) (by omega)
    obtain ⟨h3, h4⟩ := wt_encs ks x (h x (by simp)) (by omega)
    rw [List.flatMap_cons, List.length_append]
    refine ⟨by omega, fun y hy => ?_⟩
    rcases List.mem_cons.1 hy with rfl | hy
    · exact h4
    · exact h2 y hy
def HouseOk (W : World) (v : Value) : Prop := ∃ (vs : List Value) (R : Nat → List (List Value)) (z : Int), v = .agg vs.toArray ∧ HouseA W vs R z ∧ Backs R ∧ (encHouse R z).length ≤ 100000000 ∧ ∀ j, j < 14 → (R j).length * szJ j ≤ 1048576
theorem le_sum_of_in : ∀ (l : List Nat) (n : Nat), n ∈ l → n ≤ l.sum
  | [], n, h => by cases h
  | x :: l, n, h => by
    rw [List.sum_cons]
    rcases List.mem_cons.1 h with rfl | q
    · omega
    · have := le_sum_of_in l n q; omega
theorem wt_len : ∀ vs : List Value, vs.length ≤ wt vs
  | [] => by simp [wt]
  | v :: vs => by
    have h := wt_len vs
    have h1 : 1 ≤ wtV v := by unfold wtV; split <;> omega
    unfold wt at h ⊢
    simp only [List.map_cons, List.sum_cons, List.length_cons]
    omega
theorem rows_wt (k : Nat) : ∀ R : List (List Value), (∀ x ∈ R, x.length = k) → R.length * k ≤ (R.map wt).sum
  | [], _ => by simp
  | x :: R, h => by
    have h1 := rows_wt k R fun y hy => h y (List.mem_cons_of_mem _ hy)
    have h2 := wt_len x
    rw [h x List.mem_cons_self] at h2
    simp only [List.map_cons, List.sum_cons, List.length_cons, Nat.add_mul, Nat.one_mul]
    omega
theorem encTo_le (R : Nat → List (List Value)) (b : Nat → Nat) (h : ∀ j, j < 14 → (encRows (R j)).length ≤ 10 + 11 * b j) : ∀ j, j ≤ 14 → (encTo R j).length ≤ 10 * j + 11 * ((List.range j).map b).sum
  | 0, _ => by simp [encTo]
  | j + 1, hj => by
    have ih := encTo_le R b h j (by omega)
    have h1 := h j (by omega)
    simp only [encTo, List.length_append, List.range_succ, List.map_append, List.sum_append, List.map_cons, List.map_nil, List.sum_cons, List.sum_nil]
    omega
theorem SJ_flat : ∀ j, j < 14 → Tryz.prog.underlying (SJ j) = some (.slice (TJ' j)) := by
  intro j hj
  have : j = 0 ∨ j = 1 ∨ j = 2 ∨ j = 3 ∨ j = 4 ∨ j = 5 ∨ j = 6 ∨ j = 7 ∨ j = 8 ∨ j = 9 ∨ j = 10 ∨ j = 11 ∨ j = 12 ∨ j = 13 := by omega
  rcases this with rfl | rfl | rfl | rfl | rfl | rfl | rfl | rfl | rfl | rfl | rfl | rfl | rfl | rfl
  · exact Tryz.underlying22
  · exact Tryz.underlying23
  · exact Tryz.underlying24
  · exact Tryz.underlying25
  · exact Tryz.underlying26
  · exact Tryz.underlying27
  · exact Tryz.underlying28
  · exact Tryz.underlying29
  · exact Tryz.underlying30
  · exact Tryz.underlying31
  · exact Tryz.underlying32
  · exact Tryz.underlying33
  · exact Tryz.underlying34
  · exact Tryz.underlying35
set_option maxRecDepth 100000 in
theorem TJ_cells : ∀ j, j < 14 → Tryz.prog.cellsOf (TJ' j) = (ksJ j).length := by
  intro j hj
  have : j = 0 ∨ j = 1 ∨ j = 2 ∨ j = 3 ∨ j = 4 ∨ j = 5 ∨ j = 6 ∨ j = 7 ∨ j = 8 ∨ j = 9 ∨ j = 10 ∨ j = 11 ∨ j = 12 ∨ j = 13 := by omega
  rcases this with rfl | rfl | rfl | rfl | rfl | rfl | rfl | rfl | rfl | rfl | rfl | rfl | rfl | rfl
  · exact (by kernel_rfl : Tryz.prog.cellsOf 59 = 14)
  · exact (by kernel_rfl : Tryz.prog.cellsOf 62 = 3)
  · exact (by kernel_rfl : Tryz.prog.cellsOf 65 = 2)
  · exact (by kernel_rfl : Tryz.prog.cellsOf 68 = 8)
  · exact (by kernel_rfl : Tryz.prog.cellsOf 73 = 6)
  · exact (by kernel_rfl : Tryz.prog.cellsOf 76 = 3)
  · exact (by kernel_rfl : Tryz.prog.cellsOf 82 = 51)
  · exact (by kernel_rfl : Tryz.prog.cellsOf 85 = 50)
  · exact (by kernel_rfl : Tryz.prog.cellsOf 88 = 8)
  · exact (by kernel_rfl : Tryz.prog.cellsOf 91 = 11)
  · exact (by kernel_rfl : Tryz.prog.cellsOf 94 = 2)
  · exact (by kernel_rfl : Tryz.prog.cellsOf 97 = 5)
  · exact (by kernel_rfl : Tryz.prog.cellsOf 100 = 5)
  · exact (by kernel_rfl : Tryz.prog.cellsOf 103 = 6)
/-- What is known of the house's fields. -/
theorem house_fields : ∃ fs : Array Field, Tryz.prog.underlying 37 = some (.struct fs) ∧ fs.size = 15 ∧ (∀ j, j < 14 → ∃ f, fs[j]? = some f ∧ f.type = SJ j ∧ f.offset = j ∧ Tryz.prog.cellsOf f.type = 1) ∧ ∃ f, fs[14]? = some f ∧ f.type = 3 ∧ f.offset = 14 ∧ Tryz.prog.cellsOf f.type = 1 := by
  refine ⟨_, Tryz.underlying37, rfl, fun j hj => ?_, _, rfl, rfl, rfl, ?_⟩
  rotate_left
  · kernel_rfl
  have : j = 0 ∨ j = 1 ∨ j = 2 ∨ j = 3 ∨ j = 4 ∨ j = 5 ∨ j = 6 ∨ j = 7 ∨ j = 8 ∨ j = 9 ∨ j = 10 ∨ j = 11 ∨ j = 12 ∨ j = 13 := by omega
  rcases this with rfl | rfl | rfl | rfl | rfl | rfl | rfl | rfl | rfl | rfl | rfl | rfl | rfl | rfl <;> (refine ⟨_, rfl, rfl, rfl, ?_⟩; kernel_rfl)
theorem bulk_in : ∀ (xs : List (DataW H × List MemPlace)) (j : Nat) (y : DataW H × List MemPlace), xs[j]? = some y → Rows.uptoBulk y.1 ≤ Rows.uptoBulkAll (xs.map (·.1))
  | [], j, y, h => by simp at h
  | x :: xs, 0, y, h => by
    obtain rfl : x = y := by simpa using h
    simp only [List.map_cons, Rows.uptoBulkAll]; omega
  | x :: xs, j + 1, y, h => by
    have := bulk_in xs j y (by simpa using h)
    simp only [List.map_cons, Rows.uptoBulkAll]; omega
def bulkAt (xs : List (DataW H × List MemPlace)) (j : Nat) : Nat := (xs[j]?.map fun y => Rows.uptoBulk y.1).getD 0
theorem bulk_sum : ∀ (xs : List (DataW H × List MemPlace)) (n : Nat), ((List.range n).map (bulkAt xs)).sum ≤ Rows.uptoBulkAll (xs.map (·.1))
  | [], n => by
    have : ∀ l : List Nat, (l.map (bulkAt ([] : List (DataW H × List MemPlace)))).sum = 0 := by
      intro l
      induction l with
      | nil => rfl
      | cons x l ih => simp [bulkAt, ih]
    rw [this]; exact Nat.zero_le _
  | x :: xs, 0 => by simp
  | x :: xs, n + 1 => by
    have ih := bulk_sum xs n
    rw [List.range_succ_eq_map, List.map_cons, List.map_map, List.sum_cons]
    have e : (List.range n).map (bulkAt (x :: xs) ∘ Nat.succ) = (List.range n).map (bulkAt xs) := List.map_congr_left fun j _ => by simp [bulkAt]
    have e0 : bulkAt (x :: xs) 0 = Rows.uptoBulk x.1 := by simp [bulkAt]
    rw [e, e0, List.map_cons, Rows.uptoBulkAll]
    omega
set_option maxRecDepth 100000 in
theorem open_house {b0 : Nat} {r : Reach} {v : Value} {d : DataW H} {ps : List MemPlace} (hv : Value.okWide Tryz.prog W r b0 37 v) (h : DataW.Trod enc Tryz.prog W base (fun _ => true) held 37 v d ps) (hk : Rows.uptoBulk d ≤ 1048576) : HouseOk W v := by
  obtain ⟨fs, hs, hsz, hfl, f14, hf14, ht14, ho14, hc14⟩ := house_fields
  obtain ⟨cs, rfl, hsize⟩ := okWide_struct hs hv
  have hC : Tryz.prog.cellsOf 37 = 15 := by kernel_rfl
  obtain ⟨fuel, hf⟩ := h
  obtain ⟨xs, n, _, hx, hl, hxl, hh⟩ := DataW.trod_struct hs hf
  simp only [Prod.mk.injEq] at hx
  obtain ⟨rfl, _⟩ := hx
  simp only [Rows.uptoBulk] at hk
  have hcl : cs.toList.length = 15 := by rw [Array.length_toList, hsize, hC]
  have one : ∀ j, j < 15 → ∃ u, cs.toList[j]? = some u ∧ (cs.toList.drop j).take 1 = [u] := fun j hj => by
    refine ⟨cs.toList[j]'(by omega), List.getElem?_eq_getElem (by omega), ?_⟩
    rw [List.drop_eq_getElem_cons (by omega)]; rfl
  have key : ∀ j, j < 14 → ∃ (A : Option Addr) (c : Nat) (R : List (List Value)), cs.toList[j]? = some (.slice A R.length c) ∧ RowA W A (szJ j) (ksJ j) c R ∧ (R.map wt).sum ≤ bulkAt xs j := fun j hj => by
    obtain ⟨f, hfj, hft, hfo, hfc⟩ := hfl j hj
    have q := hh j f hfj
    obtain ⟨u, hu, hu2⟩ := one j (by omega)
    obtain ⟨y, hy⟩ : ∃ y, xs[j]? = some y := ⟨_, List.getElem?_eq_getElem (by omega)⟩
    rw [hft] at hfc
    rw [hfo, hft, hfc, hy, show (Value.agg cs).cells.toList = cs.toList from rfl, hu2] at q
    obtain ⟨A, c, R, rfl, hR, hw⟩ := open_flat (SJ_flat j hj) (flatJ enc W base held j hj) (TJ_cells j hj) (List.length_pos_iff.2 (ksJ_ne j hj)) q (Nat.le_trans (bulk_in xs j y hy) (by omega))
    rw [ksJ_len] at hR
    have eb : bulkAt xs j = Rows.uptoBulk y.1 := by simp [bulkAt, hy]
    exact ⟨A, c, R, hu, hR, by rw [eb]; exact hw⟩
  obtain ⟨R, hR⟩ : ∃ R : Nat → List (List Value), ∀ j, j < 14 → ∃ A c, cs.toList[j]? = some (.slice A (R j).length c) ∧ RowA W A (szJ j) (ksJ j) c (R j) ∧ ((R j).map wt).sum ≤ bulkAt xs j :=
    ⟨fun j => if q : j < 14 then (key j q).choose_spec.choose_spec.choose else [], fun j q => by simp only [dif_pos q]; exact ⟨_, _, (key j q).choose_spec.choose_spec.choose_spec⟩⟩
  obtain ⟨z, hz⟩ : ∃ z : Int, cs.toList[14]? = some (.int .i64 z) := by
    have q := hh 14 f14 hf14
    obtain ⟨u, hu, hu2⟩ := one 14 (by omega)
    obtain ⟨y, hy⟩ : ∃ y, xs[14]? = some y := ⟨_, List.getElem?_eq_getElem (by omega)⟩
    rw [ht14] at hc14
    rw [ho14, ht14, hc14, hy, show (Value.agg cs).cells.toList = cs.toList from rfl, hu2] at q
    obtain ⟨z, e, _, _⟩ := DataW.trod_int Tryz.underlying3 q
    exact ⟨z, by rw [hu]; simpa using e⟩
  have hbs := bulk_sum xs 14
  have hbj : ∀ j, j < 14 → bulkAt xs j ≤ 1048576 := fun j hj => by
    have : bulkAt xs j ≤ ((List.range 14).map (bulkAt xs)).sum := le_sum_of_in _ _ (List.mem_map.2 ⟨j, List.mem_range.2 hj, rfl⟩)
    omega
  have hall : ∀ j, j < 14 → ((R j).flatMap encs).length ≤ 11 * bulkAt xs j ∧ ∀ x ∈ R j, ∀ v ∈ x, Short v := fun j hj => by
    obtain ⟨A, c, _, hr, hw⟩ := hR j hj
    obtain ⟨h1, h2⟩ := rows_encs (ksJ j) (R j) hr.fits (Nat.le_trans hw (hbj j hj))
    exact ⟨by omega, h2⟩
  have hfew : ∀ j, j < 14 → (R j).length ≤ 100000000 := fun j hj => by
    obtain ⟨A, c, _, hr, _⟩ := hR j hj
    exact hr.few
  refine ⟨cs.toList, R, z, by simp, ⟨hcl, fun j hj => ?_, hz⟩, ⟨fun j hj => ?_, fun j hj => (hall j hj).2, fun j hj => by have := hfew j hj; omega⟩, ?_, fun j hj => ?_⟩
  · obtain ⟨A, c, h1, h2, _⟩ := hR j hj
    exact ⟨A, c, h1, h2⟩
  · obtain ⟨A, c, _, hr, _⟩ := hR j hj
    exact hr.fits
  · rw [encHouse_eq, List.length_append]
    have h1 := encTo_le R (bulkAt xs) (fun j hj => by
      have := (hall j hj).1
      have hd : (digits (R j).length).length ≤ 10 := digits_le 9 _ (by have := hfew j hj; omega)
      unfold encRows
      rw [List.length_append]
      omega) 14 (Nat.le_refl _)
    have hd : (digits (foldN z)).length ≤ 10 := digits_le 9 _ (by have := foldN_lt z; omega)
    omega
  · obtain ⟨A, c, _, hr, hw⟩ := hR j hj
    exact Nat.le_trans (rows_wt (szJ j) (R j) fun x hx => by rw [fits_len (hr.fits x hx), ksJ_len]) (Nat.le_trans hw (hbj j hj))
end
end Go.Proofs.YtgdoodeibcfcjaaGreat.Wire
