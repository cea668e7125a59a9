/- The program's media and the reference's side by side in memory, and other blocks (Z) that both leave alone. -/
import Derived.Test.YtdjcaogffppdhaaRel
import Derived.Test.YtdjcaogffppdhaaRefF
set_option linter.unusedVariables false
set_option linter.unusedSimpArgs false
namespace Go.Proofs.Ytdjcaogffppdhaa.Both
open Go.RowKit Go.Proofs.Ytdjcaogffppdhaa.SumPure Go.Proofs.Ytdjcaogffppdhaa.RefP Go.Proofs.Ytdjcaogffppdhaa.AtX Go.Proofs.Ytdjcaogffppdhaa.Lst
open Go.Proofs.YtdjcaogffppdhaaW.PrintWords Go.Proofs.YtdjcaogffppdhaaW.PrintLast Go.Proofs.YtdjcaogffppdhaaW.PrintMore
open Go.Proofs.Ytdjcaogffppdhaa.Med (IsMed Med Ranged IsSize IsFiles Filed)
open Go.Proofs.Ytdjcaogffppdhaa.Ref (R IsRef)
structure Both (w0 : World) (Z : Nat → Prop) (b : Nat) (M : Med) (br : Nat) (r : R) (n : Nat) (w : World) : Prop where
  ex : ∃ X, AtX w0 (fun i => X i ∨ Z i) b M n w ∧ IsRef w X br r n ∧ ∀ i, X i → w0.heap.size ≤ i ∧ ¬Z i
  rel : Rel M r
section
variable {w0 w : World} {Z : Nat → Prop} {b br : Nat} {M : Med} {r : R} {n : Nat}
theorem Both.str (h : Both w0 Z b M br r n w) : ∀ f i s, M.S f i = some s → s.size = 64 := by
  obtain ⟨X, hA, _⟩ := h.ex
  obtain ⟨own, ⟨g, F, rp, _⟩, _⟩ := hA.med
  exact rp.str
theorem Both.below (h : Both w0 Z b M br r n w) : Below w0.heap.size w0 w := by
  obtain ⟨X, hA, _⟩ := h.ex
  exact hA.below
theorem Both.mono (h : Both w0 Z b M br r n w) {n' : Nat} (k : n ≤ n') : Both w0 Z b M br r n' w := by
  obtain ⟨X, h1, h2, h3⟩ := h.ex
  exact ⟨⟨X, h1.mono k, h2.mono k, h3⟩, h.rel⟩
theorem Both.lt (h : Both w0 Z b M br r n w) : ∀ i, Z i → i < w.heap.size := by
  obtain ⟨X, h1, _⟩ := h.ex
  exact fun i hi => h1.lt i (.inr hi)
theorem Both.after (h : Both w0 Z b M br r n w) {w' : World} (k : Below w.heap.size w w') : Both w0 Z b M br r n w' ∧ Same Z w w' := by
  obtain ⟨X, h1, h2, h3⟩ := h.ex
  exact ⟨⟨⟨X, h1.after k, h2.below k, h3⟩, h.rel⟩, Same.below h.lt k⟩
/-- A variable is made. -/
theorem Both.more (h : Both w0 (fun _ => False) b M br r n w) {w' : World} (k : Below w.heap.size w w') (Y : Nat → Prop) (hY : ∀ i, Y i → w.heap.size ≤ i ∧ i < w'.heap.size) : Both w0 Y b M br r n w' := by
  obtain ⟨X, h1, h2, h3⟩ := h.ex
  have hX : ∀ i, X i → i < w.heap.size := fun i hi => h1.lt i (.inl hi)
  refine ⟨⟨X, h1.more k _ fun i hi => ?_, h2.below k, fun i hi => ⟨(h3 i hi).1, fun hy => by have := hX i hi; have := (hY i hy).1; omega⟩⟩, h.rel⟩
  rcases hi with hi | hi
  · exact ⟨.inl (.inl hi), Nat.lt_of_lt_of_le (hX i hi) k.size⟩
  · exact ⟨.inr (hY i hi).1, (hY i hi).2⟩
theorem Both.less (h : Both w0 Z b M br r n w) : Both w0 (fun _ => False) b M br r n w := by
  obtain ⟨X, h1, h2, h3⟩ := h.ex
  refine ⟨⟨X, h1.more (Below.refl _ _) _ fun i hi => ?_, h2, fun i hi => ⟨(h3 i hi).1, fun h => h⟩⟩, h.rel⟩
  rcases hi with hi | hi
  · exact ⟨.inl (.inl hi), h1.lt i (.inl hi)⟩
  · exact hi.elim
/-- A media alone has turned (its pair comes later): what holds between two calls. -/
structure Half (w0 : World) (Z : Nat → Prop) (b : Nat) (M : Med) (br : Nat) (r : R) (n : Nat) (w : World) : Prop where
  ex : ∃ X, AtX w0 (fun i => X i ∨ Z i) b M n w ∧ IsRef w X br r n ∧ ∀ i, X i → w0.heap.size ≤ i ∧ ¬Z i
theorem Half.lt (h : Half w0 Z b M br r n w) : ∀ i, Z i → i < w.heap.size := by
  obtain ⟨X, h1, _⟩ := h.ex
  exact fun i hi => h1.lt i (.inr hi)
theorem Both.half (h : Both w0 Z b M br r n w) : Half w0 Z b M br r n w := ⟨h.ex⟩
theorem Half.both (h : Half w0 Z b M br r n w) (k : Rel M r) : Both w0 Z b M br r n w := ⟨h.ex, k⟩
theorem Half.after (h : Half w0 Z b M br r n w) {w' : World} (k : Below w.heap.size w w') : Half w0 Z b M br r n w' ∧ Same Z w w' := by
  obtain ⟨X, h1, h2, h3⟩ := h.ex
  exact ⟨⟨⟨X, h1.after k, h2.below k, h3⟩⟩, Same.below h.lt k⟩
theorem Half.mono (h : Half w0 Z b M br r n w) {n' : Nat} (k : n ≤ n') : Half w0 Z b M br r n' w := by
  obtain ⟨X, h1, h2, h3⟩ := h.ex
  exact ⟨⟨X, h1.mono k, h2.mono k, h3⟩⟩
theorem Half.wider (h : Half w0 Z b M br r n w) {w' : World} (k : Below w.heap.size w w') (Y : Nat → Prop) (hY : ∀ i, Y i → (Z i ∨ w.heap.size ≤ i) ∧ i < w'.heap.size) : Half w0 Y b M br r n w' := by
  obtain ⟨X, h1, h2, h3⟩ := h.ex
  have hX : ∀ i, X i → i < w.heap.size := fun i hi => h1.lt i (.inl hi)
  refine ⟨⟨X, h1.more k _ fun i hi => ?_, h2.below k, fun i hi => ⟨(h3 i hi).1, fun hy => ?_⟩⟩⟩
  · rcases hi with hi | hi
    · exact ⟨.inl (.inl hi), Nat.lt_of_lt_of_le (hX i hi) k.size⟩
    · exact ⟨(hY i hi).1.imp (fun h => .inr h) id, (hY i hi).2⟩
  · rcases (hY i hy).1 with h5 | h5
    · exact (h3 i hi).2 h5
    · have := hX i hi; omega
theorem Half.narrow (h : Half w0 Z b M br r n w) (Y : Nat → Prop) (hY : ∀ i, Y i → Z i) : Half w0 Y b M br r n w :=
  h.wider (Below.refl _ _) Y fun i hi => ⟨.inl (hY i hi), h.lt i (hY i hi)⟩
theorem Half.turn (h : Half w0 Z b M br r n w) {f : Nat} {args : Array Value} {M' : Med} {n' : Nat} {v : Ending} (hn : n ≤ n')
    (c : ∀ X : Nat → Prop, AtX w0 (fun i => X i ∨ Z i) b M n w → Calls Try.prog f args w fun e w' => e = v ∧ AtX w0 (fun i => X i ∨ Z i) b M' n' w' ∧ Same (fun i => X i ∨ Z i) w w') :
    Calls Try.prog f args w fun e w' => e = v ∧ Half w0 Z b M' br r n' w' ∧ Same Z w w' := by
  obtain ⟨X, h1, h2, h3⟩ := h.ex
  refine (c X h1).mono ?_
  rintro e w' ⟨rfl, k, s⟩
  exact ⟨rfl, ⟨⟨X, k, (h2.same fun i hi hx => s i (.inl hx)).mono hn, h3⟩⟩, fun i hi => s i (.inr hi)⟩
theorem Half.rturn (h : Half w0 Z b M br r n w) {f : Nat} {args : Array Value} {r' : R} {n' : Nat} {v : Ending} (hn : n ≤ n')
    (c : ∀ X : Nat → Prop, IsRef w X br r n → Calls Try.prog f args w fun e w' => e = v ∧ Ref.Left X br w r' n' w') :
    Calls Try.prog f args w fun e w' => e = v ∧ Half w0 Z b M br r' n' w' ∧ Same Z w w' := by
  obtain ⟨X, h1, h2, h3⟩ := h.ex
  refine (c X h2).mono ?_
  rintro e w' ⟨rfl, own', m, hj, fr⟩
  have hlt : ∀ i, X i → i < w.heap.size := fun i hi => h1.lt i (.inl hi)
  have hZ : ∀ i, Z i → i < w.heap.size := fun i hi => h1.lt i (.inr hi)
  have hs := h1.below.size
  refine ⟨rfl, ⟨⟨fun i => own' i ∧ i < w'.heap.size, ?_, m.restrict, fun i hi => ?_⟩⟩, fun i hi => fr.block i (hZ i hi) fun hx => (h3 i hx).2 hi⟩
  · refine (h1.beside ⟨fr.os, fr.tape, fr.output, fr.size, fun i hi hn => fr.block i hi fun hx => hn (.inl hx)⟩ _ (fun i hi => ?_) (h1.below.trans (fr.below hs fun i hi => (h3 i hi).1))).mono hn
    rcases hi with hi | hi
    · refine ⟨?_, hi.2⟩
      rcases hj i hi.1 with h5 | h5
      · exact .inl (.inl h5)
      · exact .inr h5
    · exact ⟨.inl (.inr hi), Nat.lt_of_lt_of_le (hZ i hi) fr.size⟩
  · rcases hj i hi.1 with h5 | h5
    · exact h3 i h5
    · exact ⟨by omega, fun hz => by have := hZ i hz; omega⟩
theorem Half.arm (h : Half w0 Z b M br r n w) (x : Int) (hx : x ≤ 9223372036854775807) : Calls Try.prog 11 #[.pointer (some ⟨b, 0, none⟩), .int .i64 x] w fun e w' => e = .returned (.tuple #[]) ∧ Half w0 Z b (M.arm x) br r n w' ∧ Same Z w w' :=
  h.turn (Nat.le_refl _) fun X k => k.arm_calls x hx
theorem Half.on (h : Half w0 Z b M br r n w) : Calls Try.prog 24 #[.pointer (some ⟨b, 0, none⟩)] w fun e w' => e = .returned (.tuple #[]) ∧ Half w0 Z b M.on br r n w' ∧ Same Z w w' :=
  h.turn (Nat.le_refl _) fun X k => k.on_calls
theorem Half.write (h : Half w0 Z b M br r n w) (f i : Int) (s : ByteArray) (hs : s.size ≤ 9223372036854775807) (hn : n < 4611686018427380000) : Calls Try.prog 12 #[.pointer (some ⟨b, 0, none⟩), .int .i64 f, .int .i64 i, .string s] w fun e w' => e = .returned (.int .i64 (M.write f i s).2) ∧ Half w0 Z b (M.write f i s).1 br r (n + 3) w' ∧ Same Z w w' :=
  h.turn (by omega) fun X k => k.write_calls f i s hs hn
theorem Half.writes (h : Half w0 Z b M br r n w) : Calls Try.prog 14 #[.pointer (some ⟨b, 0, none⟩)] w fun e w' => e = .returned (.int .i64 M.writes) ∧ w' = w := by
  obtain ⟨X, h1, h2, h3⟩ := h.ex
  exact h1.writes_calls
theorem framed {X : Nat → Prop} {w' : World} {r' : R} {n' : Nat} (h : IsRef w' X br r' n') (fr : Med.Frame X w w') : Ref.Left X br w r' n' w' := ⟨X, h, fun j hj => .inl hj, fr⟩
theorem Half.rarm (h : Half w0 Z b M br r n w) (x : Int) (hx : x ≤ 9223372036854775807) : Calls Try.prog 23 #[.pointer (some ⟨br, 0, none⟩), .int .i64 x] w fun e w' => e = .returned (.tuple #[]) ∧ Half w0 Z b M br (r.arm x) n w' ∧ Same Z w w' :=
  h.rturn (Nat.le_refl _) fun X k => (Ref.arm_calls k x hx).mono fun e w' ⟨a, c, d⟩ => ⟨a, framed c d⟩
theorem Half.ron (h : Half w0 Z b M br r n w) : Calls Try.prog 25 #[.pointer (some ⟨br, 0, none⟩)] w fun e w' => e = .returned (.tuple #[]) ∧ Half w0 Z b M br r.on n w' ∧ Same Z w w' :=
  h.rturn (Nat.le_refl _) fun X k => (Ref.on_calls k).mono fun e w' ⟨a, c, d⟩ => ⟨a, framed c d⟩
theorem Half.rwrite (h : Half w0 Z b M br r n w) (f i : Int) (s : ByteArray) (hs : s.size ≤ 9223372036854775807) (hn : n < 100000000) : Calls Try.prog 18 #[.pointer (some ⟨br, 0, none⟩), .int .i64 f, .int .i64 i, .string s] w fun e w' => e = .returned (.int .i64 (r.write f i s).2) ∧ Half w0 Z b M br (r.write f i s).1 (n + 2) w' ∧ Same Z w w' :=
  h.rturn (by omega) fun X k => Ref.write_calls k f i s hs hn
theorem Half.rwrites (h : Half w0 Z b M br r n w) : Calls Try.prog 30 #[.pointer (some ⟨br, 0, none⟩)] w fun e w' => e = .returned (.int .i64 r.writes) ∧ w' = w := by
  obtain ⟨X, h1, h2, h3⟩ := h.ex
  exact Ref.writes_calls h2
theorem Half.remove (h : Half w0 Z b M br r n w) (f : Int) (hn : n < 4611686018427380000) : Calls Try.prog 19 #[.pointer (some ⟨b, 0, none⟩), .int .i64 f] w fun e w' => e = .returned (.int .i64 (M.remove f).2) ∧ Half w0 Z b (M.remove f).1 br r (n + 3) w' ∧ Same Z w w' :=
  h.turn (by omega) fun X k => k.remove_calls f hn
theorem Half.rremove (h : Half w0 Z b M br r n w) (f : Int) (hn : n < 100000000) : Calls Try.prog 20 #[.pointer (some ⟨br, 0, none⟩), .int .i64 f] w fun e w' => e = .returned (.int .i64 (r.remove f).2) ∧ Half w0 Z b M br (r.remove f).1 (n + 2) w' ∧ Same Z w w' :=
  h.rturn (by omega) fun X k => Ref.remove_calls k f hn
theorem Half.read (h : Half w0 Z b M br r n w) (f i : Int) : Calls Try.prog 21 #[.pointer (some ⟨b, 0, none⟩), .int .i64 f, .int .i64 i] w fun e w' => e = .returned (.tuple #[.string (M.read f i).1, .int .i64 (M.read f i).2]) ∧ ∃ m, w' = w.drewN m := by
  obtain ⟨X, h1, h2, h3⟩ := h.ex
  exact h1.read_calls f i
theorem Half.rread (h : Half w0 Z b M br r n w) (f i : Int) (hn : n < 1000000000) : Calls Try.prog 22 #[.pointer (some ⟨br, 0, none⟩), .int .i64 f, .int .i64 i] w fun e w' => e = .returned (.tuple #[.string (r.read f i).1, .int .i64 (r.read f i).2]) ∧ w' = w := by
  obtain ⟨X, h1, h2, h3⟩ := h.ex
  exact Ref.read_calls h2 f i hn
theorem Half.drawn (h : Half w0 Z b M br r n w) (m : Nat) : Half w0 Z b M br r n (w.drewN m) := (h.after (w' := w.drewN m) ⟨rfl, rfl, rfl, Nat.le_refl _, fun _ _ => rfl⟩).1
theorem Half.files (h : Half w0 Z b M br r n w) (hfd : Filed M) (hn : n ≤ 10000000000000) : Calls Try.prog 27 #[.pointer (some ⟨b, 0, none⟩)] w fun e w' => ∃ v l, e = .returned v ∧ IsFiles M l ∧ Lst w' v l ∧ Half w0 (fun i => Z i ∨ v.ownBlock = some i) b M br r n w' ∧ Same Z w w' := by
  obtain ⟨X, h1, h2, h3⟩ := h.ex
  refine (h1.files_calls hfd hn).mono ?_
  rintro e w' ⟨v, l, rfl, hl, hv, hnew, ha, hs⟩
  refine ⟨v, l, rfl, hl, hv, ⟨⟨X, ha.narrow _ fun i hi => ?_, h2.same fun i hi hx => hs i (.inl hx), fun i hi => ⟨(h3 i hi).1, ?_⟩⟩⟩, fun i hi => hs i (.inr hi)⟩
  · rcases hi with hi | hi | hi
    · exact .inl (.inl hi)
    · exact .inl (.inr hi)
    · exact .inr hi
  · rintro (hz | hz)
    · exact (h3 i hi).2 hz
    · have := hnew i hz
      have := h1.lt i (.inl hi)
      omega
theorem Half.rfiles (h : Half w0 Z b M br r n w) (hn : n < 1000000000) : Calls Try.prog 28 #[.pointer (some ⟨br, 0, none⟩)] w fun e w' => ∃ v, e = .returned v ∧ Lst w' v (Ref.filesL r.L) ∧ Half w0 Z b M br r n w' ∧ Below w.heap.size w w' := by
  obtain ⟨X, h1, h2, h3⟩ := h.ex
  refine (Ref.files_calls h2 hn).mono ?_
  rintro e w' ⟨v, rfl, hr, hb⟩
  exact ⟨v, rfl, Lst.of_row hr, (h.after hb).1, hb⟩
theorem Half.size (h : Half w0 Z b M br r n w) (hok : Ranged M) (f : Int) (hf : (Lit.int .i64 f).wf = true) : Calls Try.prog 15 #[.pointer (some ⟨b, 0, none⟩), .int .i64 f] w fun e w' => ∃ q, e = .returned (.int .i64 q) ∧ IsSize M f q ∧ Half w0 Z b M br r n w' ∧ Same Z w w' := by
  obtain ⟨X, h1, h2, h3⟩ := h.ex
  refine (h1.size_calls hok f hf).mono ?_
  rintro e w' ⟨q, rfl, hq, ha, hs⟩
  exact ⟨q, rfl, hq, ⟨⟨X, ha, h2.same fun i hi hx => hs i (.inl hx), h3⟩⟩, fun i hi => hs i (.inr hi)⟩
theorem Half.rsize (h : Half w0 Z b M br r n w) (f : Int) (hr : ∀ x ∈ r.L, 0 ≤ x.2.1 ∧ x.2.1 < 65536) (hn : n < 1000000000) : Calls Try.prog 29 #[.pointer (some ⟨br, 0, none⟩), .int .i64 f] w fun e w' => e = .returned (.int .i64 (Ref.rsz f r.L)) ∧ w' = w := by
  obtain ⟨X, h1, h2, h3⟩ := h.ex
  exact Ref.size_calls h2 f hr hn
end
theorem Ranged.remove {M : Med} (h : Ranged M) (f : Int) : Ranged (M.remove f).1 := by
  have hsp : M.spend.1.S = M.S := by unfold Med.Med.spend; split <;> rfl
  unfold Med.Med.remove
  split
  · split
    · intro g j t ht
      have e : (M.spend.1.drop f).S g j = if g = f then none else M.spend.1.S g j := rfl
      simp only [] at ht
      rw [e, hsp] at ht
      split at ht
      · cases ht
      · exact h g j t ht
    · intro g j t ht
      rw [hsp] at ht
      exact h g j t ht
  · exact h
/-- What holds of both medias beside their relation. -/
structure Goods (M : Med) (r : R) : Prop where
  has : Has M r
  rg : Ranged M
  fd : Filed M
theorem Goods.new : Goods Med.new R.new := ⟨Has.new, Med.Ranged.new, Med.Filed.new⟩
theorem Goods.write {M : Med} {r : R} (g : Goods M r) (h : Rel M r) (f a : Int) (s : ByteArray) : Goods (M.write f a s).1 (r.write f a s).1 := ⟨Has.write h g.has f a s, g.rg.write f a s, g.fd.write f a s⟩
theorem Goods.remove {M : Med} {r : R} (g : Goods M r) (h : Rel M r) (f : Int) : Goods (M.remove f).1 (r.remove f).1 := ⟨(h.remove g.has f).2.2, Ranged.remove g.rg f, g.fd.remove f⟩
theorem Goods.arm {M : Med} {r : R} (g : Goods M r) (x : Int) : Goods (M.arm x) (r.arm x) := ⟨g.has.arm x, g.rg.arm x, g.fd.arm x⟩
theorem Goods.on {M : Med} {r : R} (g : Goods M r) : Goods M.on r.on := ⟨g.has.on, g.rg.on, g.fd.on⟩
theorem Goods.items {M : Med} {r : R} (g : Goods M r) (h : Rel M r) : ∀ x ∈ r.L, 0 ≤ x.2.1 ∧ x.2.1 < 65536 := fun x hx => by
  obtain ⟨s, hs⟩ := Option.isSome_iff_exists.1 (seek_mem hx rfl rfl)
  rw [← h.S] at hs
  exact (g.rg _ _ _ hs).2.2
theorem Both.new {w0 w1 : World} {b : Nat} (h : AtX w0 (fun _ => False) b Med.new 0 w1) : Calls Try.prog 17 #[] w1 fun e w' => ∃ br, e = .returned (.pointer (some ⟨br, 0, none⟩)) ∧ Both w0 (fun _ => False) b Med.new br R.new 0 w' := by
  refine (Ref.New_calls w1).mono ?_
  rintro e w' ⟨br, rfl, hr, hb⟩
  refine ⟨br, rfl, ⟨fun i => w1.heap.size ≤ i ∧ i < w'.heap.size, h.more hb _ fun i hi => ?_, hr.restrict, fun i hi => ⟨by have := h.below.size; omega, fun h => h⟩⟩, Rel.new⟩
  rcases hi with hi | hi
  · exact ⟨.inr hi.1, hi.2⟩
  · exact hi.elim
end Go.Proofs.Ytdjcaogffppdhaa.Both
