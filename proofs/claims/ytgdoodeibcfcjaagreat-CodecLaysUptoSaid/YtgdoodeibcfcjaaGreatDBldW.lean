/- (*strings.Builder).WriteString: what is written, and that nothing else has turned. -/
import Derived.Test.YtgdoodeibcfcjaaGreatDBldK
set_option linter.unusedVariables false
namespace Go.Proofs.YtgdoodeibcfcjaaGreat.BldS
open Go.RowKit Go.Proofs.YtgdoodeibcfcjaaGreat.Own
/-- What stands in memory and is no builder and no row of bytes, is as it was. -/
def Keeps (b : Nat) (w w' : World) : Prop := ∀ j o, w.heap[j]? = some o → j ≠ b → (∀ cs fr, o ≠ .cells cs 5 fr) → w'.heap[j]? = some o
theorem Keeps.refl (b : Nat) (w : World) : Keeps b w w := fun _ _ h _ _ => h
theorem Keeps.trans {b : Nat} {w w1 w2 : World} (h : Keeps b w w1) (k : Keeps b w1 w2) : Keeps b w w2 := fun j o a c d => k j o (h j o a c d) c d
theorem Keeps.below {b : Nat} {w w' : World} (h : Below w.heap.size w w') : Keeps b w w' := fun j o a _ _ => (h.block j (Array.getElem?_eq_some_iff.1 a).1).trans a
theorem copyCheckK (B b : Nat) (bs : List Value) (w : World) (h : Lib.IsBuilder 108 5 B b bs w) :
    Calls Tryz.prog 101 #[.pointer (some ⟨b, 0, none⟩)] w fun e w' => e = .returned (.tuple #[]) ∧ Lib.BuilderAt 108 5 B b (.pointer (some ⟨b, 0, none⟩)) bs w' ∧ Below B w w' ∧ Keeps b w w' := by
  rcases h with h | h
  · refine (copyCheck_fresh b w h.cell0 h.shape h.frozen0).mono ?_
    rintro e w' ⟨rfl, rfl⟩
    exact ⟨rfl, h.used _, (Below.refl B w).setCell (p := ⟨b, 0, none⟩) h.1 _, fun j o hj hne _ => by rw [Below.heap_setCell w ⟨b, 0, none⟩ _ j hne]; exact hj⟩
  · refine (copyCheck_used b w h.cell0).mono ?_
    rintro e w' ⟨rfl, rfl⟩
    exact ⟨rfl, h, Below.refl B _, Keeps.refl _ _⟩
theorem own_ne {w : World} {B n : Nat} {v : Value} {bs : List Value} (h : w.ownsRow B 5 1 v n bs) {j : Nat} {o : Obj} (hj : w.heap[j]? = some o) (ho : ∀ cs fr, o ≠ .cells cs 5 fr) : v.ownBlock ≠ some j := by
  rcases h.2 with ⟨rfl, _⟩ | ⟨g, cap, cur, rfl, _, hg, _⟩
  · simp [Value.ownBlock]
  · simp only [Value.ownBlock]
    intro e
    cases e
    rw [hj] at hg
    exact ho _ _ (Option.some.inj hg)
set_option maxHeartbeats 2000000 in
set_option maxRecDepth 100000 in
theorem writeStringK (B b : Nat) (bs : List Value) (s : ByteArray) (w : World) (h : Lib.IsBuilder 108 5 B b bs w) (hlen : bs.length + s.size ≤ 140737488355328) (hBw : B ≤ w.heap.size) :
    Calls Tryz.prog 93 #[.pointer (some ⟨b, 0, none⟩), .string s] w fun e w' => e = .returned (.tuple #[.int .i64 s.size, .nilIface]) ∧ Lib.BuilderAt 108 5 B b (.pointer (some ⟨b, 0, none⟩)) (bs ++ Lib.strCells s) w' ∧ Below B w w' ∧ Keeps b w w' := by
  obtain ⟨i0, hi, hz0, hz1, hz2⟩ := infoParts infoByte
  go_enter Tryz.func93, Tryz.ntmps93
  go_wp2_with (go_at_call 101; refine (copyCheckK B b bs _ h).mono ?_)
  rintro e w1 ⟨rfl, h1, hb1, hk1⟩
  have HK1 : Aside0 (Keeps b w w1) := ⟨hk1⟩
  clear hk1
  obtain ⟨hB, v, hbk, hown, hne⟩ := h1
  have c0 : w1.cell? ⟨b, 0, none⟩ = some (.pointer (some ⟨b, 0, none⟩)) := by rw [Lib.cell_of_heap hbk]; rfl
  have c1 : w1.cell? ⟨b, 1, none⟩ = some v := by rw [Lib.cell_of_heap hbk]; rfl
  go_wp2_with (at_builtin; refine Lib.wpList_append_own_string _ rfl _ _ 106 9 rfl B 5 i0 Tryz.underlying106 Tryz.underlying9 hi hz0 hz1 hz2 _ _ _ rfl hown s rfl ?c3 ?c4 ?c5 ?_)
  case c3 => unfold maxLen; omega
  case c4 => omega
  case c5 => have := hb1.size; omega
  intro v' w2 hown' hgrow _
  have hlt : b < w1.heap.size := by
    rcases Nat.lt_or_ge b w1.heap.size with h' | h'
    · exact h'
    · simp [Array.getElem?_eq_none h'] at hbk
  have hb2 : w2.heap[b]? = some (.cells #[.pointer (some ⟨b, 0, none⟩), v] 108 (0, 0)) := by
    rw [hgrow.block b hlt (fun e => hne e.symm)]
    exact hbk
  have d0 : w2.cell? ⟨b, 0, none⟩ = some (.pointer (some ⟨b, 0, none⟩)) := by rw [Lib.cell_of_heap hb2]; rfl
  have d1 : w2.cell? ⟨b, 1, none⟩ = some v := by rw [Lib.cell_of_heap hb2]; rfl
  have f1 : w2.frozen? ⟨b, 1, none⟩ = false := Lib.frozen_of_heap hb2 1
  have HK2 : Aside0 (Keeps b w1 w2) := ⟨fun j o hj hn ho => (hgrow.block j (Array.getElem?_eq_some_iff.1 hj).1 (fun e => own_ne hown hj ho e.symm)).trans hj⟩
  obtain ⟨ao, n', cap, rfl⟩ : ∃ ao n' cap, v' = .slice ao n' cap := by
    rcases hown'.2 with ⟨hv, _⟩ | ⟨g, cap, cur, hv, _⟩
    · exact ⟨_, _, _, hv⟩
    · exact ⟨_, _, _, hv⟩
  go_wp2
  go_ret2
  refine ⟨rfl, ?_, ?_, ?_⟩
  · exact Lib.BuilderAt.put (T := 108) (e := 5) hB hb2 (bs' := bs ++ Lib.strCells s) (by simpa [Lib.strCells_length] using hown') (by decide)
  · exact (hb1.grown hgrow (by have := hb1.size; omega) (fun k hk => (hown.lt k hk).1)).setCell (p := ⟨b, 1, none⟩) hB _
  · exact (HK1.out.trans HK2.out).trans fun j o hj hne _ => by rw [Below.heap_setCell w2 ⟨b, 1, none⟩ _ j hne]; exact hj
/-- A builder stays one where what it consists of stays. -/
theorem is_keeps {B b : Nat} {bs : List Value} {w w' : World} (h : Lib.IsBuilder 108 5 B b bs w) (hk : ∀ (j : Nat) (cs : Array Value) (T : TypeId) (fr : Nat × Nat), w.heap[j]? = some (Obj.cells cs T fr) → (T = 108 ∨ T = 5) → w'.heap[j]? = some (Obj.cells cs T fr)) : Lib.IsBuilder 108 5 B b bs w' := by
  have k : ∀ p, Lib.BuilderAt 108 5 B b p bs w → Lib.BuilderAt 108 5 B b p bs w' := by
    rintro p ⟨hB, v, hbk, ⟨hl, ho⟩, hne⟩
    refine ⟨hB, v, hk _ _ _ _ hbk (.inl rfl), ⟨hl, ?_⟩, hne⟩
    rcases ho with ho | ⟨g, cap, cur, rfl, hg, hgh, r⟩
    · exact .inl ho
    · exact .inr ⟨g, cap, cur, rfl, hg, hk _ _ _ _ hgh (.inr rfl), r⟩
  rcases h with h | h
  · exact .inl (k _ h)
  · exact .inr (k _ h)
end Go.Proofs.YtgdoodeibcfcjaaGreat.BldS
