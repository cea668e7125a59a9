/- The reference's media and the program's: what they answer is one; files and their sizes too. -/
import Derived.Test.YtdjcaogffppdhaaRefR
import Derived.Test.YtdjcaogffppdhaaMedX
import Derived.Test.YtdjcaogffppdhaaMedP
set_option linter.unusedVariables false
set_option linter.unusedSimpArgs false
namespace Go.Proofs.Ytdjcaogffppdhaa.RefP
open Go.RowKit Go.Proofs.Ytdjcaogffppdhaa.SumPure
open Go.Proofs.Ytdjcaogffppdhaa.Med (Med Ranged IsSize IsFiles Filed)
open Go.Proofs.Ytdjcaogffppdhaa.Ref (R Item put seekR right rsz rsz1 ins filesL)
structure Rel (M : Med) (r : R) : Prop where
  off : M.off = r.off
  wr : M.writes = r.writes
  armed : r.armed = true → M.left = r.left ∧ 0 ≤ r.left
  free : r.armed = false → M.left = -1
  S : ∀ f a, M.S f a = seekR f a r.L
theorem Rel.new : Rel Med.new R.new := ⟨rfl, rfl, (fun h => by cases h), fun _ => rfl, fun f a => rfl⟩
theorem seek_put (f a g b : Int) (s : ByteArray) (l : List Ref.Item) : seekR g b (put f a s l) = if g = f ∧ b = a then some s else seekR g b l := by
  induction l with
  | nil =>
    simp only [put, seekR]
    by_cases h : g = f ∧ b = a
    · rw [if_pos h, if_pos ⟨h.1.symm, h.2.symm⟩]
    · rw [if_neg h, if_neg (fun k => h ⟨k.1.symm, k.2.symm⟩)]
  | cons x l ih =>
    unfold put
    by_cases h1 : x.1 = f ∧ x.2.1 = a
    · rw [if_pos h1]
      simp only [seekR]
      by_cases h : g = f ∧ b = a
      · rw [if_pos h, if_pos ⟨h1.1.trans h.1.symm, h1.2.trans h.2.symm⟩]
      · rw [if_neg h]
        have : ¬(x.1 = g ∧ x.2.1 = b) := fun k => h ⟨by rw [← k.1, h1.1], by rw [← k.2, h1.2]⟩
        rw [if_neg this, if_neg this]
    · rw [if_neg h1]
      simp only [seekR]
      by_cases h2 : x.1 = g ∧ x.2.1 = b
      · rw [if_pos h2]
        have : ¬(g = f ∧ b = a) := fun k => h1 ⟨by rw [h2.1, k.1], by rw [h2.2, k.2]⟩
        rw [if_neg this, if_pos h2]
      · rw [if_neg h2, if_neg h2, ih]
theorem right_iff (f a : Int) : right f a = false ↔ (f < 0 ∨ f ≥ 1048576 ∨ a < 0 ∨ a ≥ 65536) := by
  unfold right
  rw [decide_eq_false_iff_not]
  omega
theorem Rel.write {M : Med} {r : R} (h : Rel M r) (f a : Int) (s : ByteArray) : (M.write f a s).2 = (r.write f a s).2 ∧ Rel (M.write f a s).1 (r.write f a s).1 := by
  unfold Med.write R.write
  cases ho : r.off with
  | true =>
    have h1 : M.ready f a s.size = 40 := by unfold Med.ready; rw [h.off, ho]; rfl
    rw [h1, if_neg (by decide), if_pos rfl]
    exact ⟨rfl, h⟩
  | false =>
    have h1 : M.ready f a s.size = if f < 0 ∨ f ≥ 1048576 ∨ a < 0 ∨ a ≥ 65536 ∨ (s.size : Int) ≠ 64 then 42 else 0 := by unfold Med.ready; rw [h.off, ho]; rfl
    rw [if_neg (show ¬ false = true by decide)]
    by_cases hb : right f a = false ∨ s.size ≠ 64
    · rw [if_pos hb]
      have h2 : M.ready f a s.size = 42 := by
        rw [h1, if_pos]
        rcases hb with hb | hb
        · rw [right_iff] at hb; omega
        · omega
      rw [h2, if_neg (by decide)]
      exact ⟨rfl, h⟩
    · rw [if_neg hb]
      have h2 : M.ready f a s.size = 0 := by
        rw [h1, if_neg]
        intro k
        apply hb
        rw [right_iff]
        omega
      rw [h2, if_pos rfl]
      have hL : ∀ g b, (if g = f ∧ b = a then some s else M.S g b) = seekR g b (put f a s r.L) := fun g b => by rw [seek_put, h.S]
      by_cases ha : r.armed = true
      · obtain ⟨e1, e2⟩ := h.armed ha
        by_cases h0 : M.left = 0
        · have hsp : M.spend = ({ M with off := true }, 40) := by unfold Med.spend; rw [if_pos h0]
          have hact : r.act = ({ r with off := true }, false) := by unfold R.act; rw [if_pos ⟨ha, by omega⟩]
          rw [hsp, hact]
          simp only []
          rw [if_neg (show ¬ (40 : Int) = 0 by decide), if_neg (show ¬ false = true by decide)]
          exact ⟨rfl, ⟨rfl, h.wr, (fun _ => ⟨e1, e2⟩), (fun k => by rw [show r.armed = false from k] at ha; cases ha), h.S⟩⟩
        · have hsp : M.spend = ({ M with left := if M.left > 0 then M.left - 1 else -1, writes := M.writes + 1 }, 0) := by unfold Med.spend; rw [if_neg h0]
          have hact : r.act = ({ r with left := r.left - 1, writes := r.writes + 1 }, true) := by unfold R.act; rw [if_neg (fun k => by have := k.2; omega)]
          rw [hsp, hact]
          simp only [if_true]
          refine ⟨trivial, ⟨h.off, ?_, fun _ => ⟨?_, ?_⟩, (fun k => by rw [show r.armed = false from k] at ha; cases ha), hL⟩⟩
          · show M.writes + 1 = r.writes + 1; rw [h.wr]
          · show (if M.left > 0 then M.left - 1 else -1) = r.left - 1; rw [if_pos (by omega), e1]
          · show 0 ≤ r.left - 1; omega
      · have ha' : r.armed = false := by simpa using ha
        have e1 := h.free ha'
        have hsp : M.spend = ({ M with left := if M.left > 0 then M.left - 1 else -1, writes := M.writes + 1 }, 0) := by unfold Med.spend; rw [if_neg (by omega)]
        have hact : r.act = ({ r with left := r.left - 1, writes := r.writes + 1 }, true) := by unfold R.act; rw [if_neg (fun k => ha k.1)]
        rw [hsp, hact]
        simp only [if_true]
        refine ⟨trivial, ⟨h.off, ?_, (fun k => absurd k ha), fun _ => ?_, hL⟩⟩
        · show M.writes + 1 = r.writes + 1; rw [h.wr]
        · show (if M.left > 0 then M.left - 1 else -1) = -1; rw [if_neg (by omega)]
theorem Rel.read {M : Med} {r : R} (h : Rel M r) (f a : Int) : r.read f a = M.read f a := by
  unfold Med.read R.read
  cases ho : r.off with
  | true =>
    have h1 : M.ready f a 64 = 40 := by unfold Med.ready; rw [h.off, ho]; rfl
    rw [if_pos rfl, h1, if_neg (by decide)]
  | false =>
    have h1 : M.ready f a 64 = if f < 0 ∨ f ≥ 1048576 ∨ a < 0 ∨ a ≥ 65536 ∨ (64 : Int) ≠ 64 then 42 else 0 := by unfold Med.ready; rw [h.off, ho]; rfl
    rw [if_neg (show ¬ false = true by decide)]
    by_cases hb : right f a = false
    · rw [if_pos hb]
      rw [right_iff] at hb
      have h2 : M.ready f a 64 = 42 := by rw [h1, if_pos (by omega)]
      rw [h2, if_neg (by decide)]
    · rw [if_neg hb]
      have hb' : ¬(f < 0 ∨ f ≥ 1048576 ∨ a < 0 ∨ a ≥ 65536 ∨ (64 : Int) ≠ 64) := by
        rw [right_iff] at hb; omega
      rw [h1, if_neg hb', if_pos rfl, h.S]
      cases seekR f a r.L <;> rfl
theorem Rel.arm {M : Med} {r : R} (h : Rel M r) (x : Int) : Rel (M.arm x) (r.arm x) := by
  refine ⟨h.off, h.wr, fun _ => ⟨?_, ?_⟩, (fun k => by cases k), h.S⟩
  · show (if x > 0 then x else 0) = (if x < 0 then 0 else x); split <;> split <;> omega
  · show 0 ≤ (if x < 0 then 0 else x); split <;> omega
theorem Rel.on {M : Med} {r : R} (h : Rel M r) : Rel M.on r.on := ⟨rfl, h.wr, (fun k => by cases k), fun _ => rfl, h.S⟩
theorem seek_filter (f g b : Int) (l : List Ref.Item) : seekR g b (l.filter fun x => decide (x.1 ≠ f)) = if g = f then none else seekR g b l := by
  induction l with
  | nil => simp [seekR]
  | cons x l ih =>
    by_cases h : x.1 = f
    · rw [List.filter_cons_of_neg (by simp [h]), ih, seekR]
      by_cases hg : g = f
      · simp [hg]
      · rw [if_neg hg, if_neg hg, if_neg (fun k => hg (by rw [← k.1, h]))]
    · rw [List.filter_cons_of_pos (by simp [h]), seekR, seekR, ih]
      by_cases hg : g = f
      · rw [if_pos hg, if_neg (fun k => h (by rw [k.1, hg])), if_pos hg]
      · rw [if_neg hg, if_neg hg]
/-- Which files have sectors. -/
def Has (M : Med) (r : R) : Prop := ∀ f, M.has f = true ↔ ∃ x ∈ r.L, x.1 = f
theorem Has.new : Has Med.new R.new := fun f => by simp [Med.new, R.new]
theorem mem_put (f a : Int) (s : ByteArray) (g : Int) (l : List Ref.Item) : (∃ x ∈ put f a s l, x.1 = g) ↔ g = f ∨ ∃ x ∈ l, x.1 = g := by
  induction l with
  | nil => simp [put, eq_comm]
  | cons x l ih =>
    unfold put
    split
    · rename_i h
      simp only [List.mem_cons, exists_eq_or_imp]
      constructor
      · rintro (e | e)
        · exact .inr (.inl e)
        · exact .inr (.inr e)
      · rintro (e | e | e)
        · exact .inl (by rw [h.1, e])
        · exact .inl e
        · exact .inr e
    · simp only [List.mem_cons, exists_eq_or_imp, ih]
      constructor
      · rintro (e | e | e)
        · exact .inr (.inl e)
        · exact .inl e
        · exact .inr (.inr e)
      · rintro (e | e | e)
        · exact .inr (.inl e)
        · exact .inl e
        · exact .inr (.inr e)
theorem spend_has (M : Med) : M.spend.1.has = M.has := by unfold Med.spend; split <;> rfl
theorem act_L (r : R) : r.act.1.L = r.L := by unfold R.act; split <;> rfl
theorem spend_cases (M : Med) : M.spend.2 = 0 ∨ M.spend.2 = 40 := by unfold Med.spend; split <;> simp
/-- Both medias have power for one raw write more, or neither has. -/
theorem Rel.spend {M : Med} {r : R} (h : Rel M r) : (M.spend.2 = 0 ∧ r.act.2 = true ∨ M.spend.2 = 40 ∧ r.act.2 = false) ∧ Rel M.spend.1 r.act.1 := by
  by_cases ha : r.armed = true
  · obtain ⟨e1, e2⟩ := h.armed ha
    by_cases h0 : M.left = 0
    · have hsp : M.spend = ({ M with off := true }, 40) := by unfold Med.spend; rw [if_pos h0]
      have hact : r.act = ({ r with off := true }, false) := by unfold R.act; rw [if_pos ⟨ha, by omega⟩]
      rw [hsp, hact]
      exact ⟨.inr ⟨rfl, rfl⟩, ⟨rfl, h.wr, (fun _ => ⟨e1, e2⟩), (fun k => by rw [show r.armed = false from k] at ha; cases ha), h.S⟩⟩
    · have hsp : M.spend = ({ M with left := if M.left > 0 then M.left - 1 else -1, writes := M.writes + 1 }, 0) := by unfold Med.spend; rw [if_neg h0]
      have hact : r.act = ({ r with left := r.left - 1, writes := r.writes + 1 }, true) := by unfold R.act; rw [if_neg (fun k => by have := k.2; omega)]
      rw [hsp, hact]
      refine ⟨.inl ⟨rfl, rfl⟩, ⟨h.off, ?_, fun _ => ⟨?_, ?_⟩, (fun k => by rw [show r.armed = false from k] at ha; cases ha), h.S⟩⟩
      · show M.writes + 1 = r.writes + 1; rw [h.wr]
      · show (if M.left > 0 then M.left - 1 else -1) = r.left - 1; rw [if_pos (by omega), e1]
      · show 0 ≤ r.left - 1; omega
  · have ha' : r.armed = false := by simpa using ha
    have e1 := h.free ha'
    have hsp : M.spend = ({ M with left := if M.left > 0 then M.left - 1 else -1, writes := M.writes + 1 }, 0) := by unfold Med.spend; rw [if_neg (by omega)]
    have hact : r.act = ({ r with left := r.left - 1, writes := r.writes + 1 }, true) := by unfold R.act; rw [if_neg (fun k => ha k.1)]
    rw [hsp, hact]
    refine ⟨.inl ⟨rfl, rfl⟩, ⟨h.off, ?_, (fun k => absurd k ha), fun _ => ?_, h.S⟩⟩
    · show M.writes + 1 = r.writes + 1; rw [h.wr]
    · show (if M.left > 0 then M.left - 1 else -1) = -1; rw [if_neg (by omega)]
theorem ready_rel {M : Med} {r : R} (h : Rel M r) (f a n : Int) : M.ready f a n = if r.off = true then 40 else if right f a = false ∨ n ≠ 64 then 42 else 0 := by
  unfold Med.ready
  rw [h.off]
  by_cases ho : r.off = true
  · rw [if_pos ho, if_pos ho]
  · rw [if_neg ho, if_neg ho]
    have := right_iff f a
    by_cases hb : right f a = false ∨ n ≠ 64
    · rw [if_pos hb, if_pos (by rw [this] at hb; omega)]
    · rw [if_neg hb, if_neg (by rw [this] at hb; omega)]
theorem Rel.remove {M : Med} {r : R} (h : Rel M r) (hh : Has M r) (f : Int) : (M.remove f).2 = (r.remove f).2 ∧ Rel (M.remove f).1 (r.remove f).1 ∧ Has (M.remove f).1 (r.remove f).1 := by
  unfold Med.remove R.remove
  by_cases ho : r.off = true
  · have e : M.ready f 0 64 = 40 := by rw [ready_rel h, if_pos ho]
    rw [e, if_neg (by decide), if_pos ho]
    exact ⟨rfl, h, hh⟩
  · by_cases hb : right f 0 = false
    · have e : M.ready f 0 64 = 42 := by rw [ready_rel h, if_neg ho, if_pos (.inl hb)]
      rw [e, if_neg (by decide), if_neg ho, if_pos hb]
      exact ⟨rfl, h, hh⟩
    · have e : M.ready f 0 64 = 0 := by rw [ready_rel h, if_neg ho, if_neg (by simpa using hb)]
      rw [e, if_pos rfl, if_neg ho, if_neg hb]
      obtain ⟨hs, hr⟩ := h.spend
      rcases hs with ⟨e1, e2⟩ | ⟨e1, e2⟩
      · rw [if_pos e1, if_pos e2]
        refine ⟨rfl, ⟨hr.off, hr.wr, hr.armed, hr.free, fun g b => ?_⟩, fun g => ?_⟩
        · show (if g = f then none else M.spend.1.S g b) = seekR g b (r.act.1.L.filter fun x => decide (x.1 ≠ f))
          rw [seek_filter, hr.S]
        · show (if g = f then false else M.spend.1.has g) = true ↔ ∃ x ∈ (r.act.1.L.filter fun x => decide (x.1 ≠ f)), x.1 = g
          rw [spend_has, act_L]
          by_cases hg : g = f
          · subst hg
            simp
          · rw [if_neg hg, hh g]
            constructor
            · rintro ⟨x, hx, e⟩
              exact ⟨x, List.mem_filter.2 ⟨hx, by simp [e, hg]⟩, e⟩
            · rintro ⟨x, hx, e⟩
              exact ⟨x, (List.mem_filter.1 hx).1, e⟩
      · rw [if_neg (by rw [e1]; decide), if_neg (by rw [e2]; decide)]
        exact ⟨e1, hr, fun g => by rw [spend_has, act_L]; exact hh g⟩
theorem Has.write {M : Med} {r : R} (h : Rel M r) (hh : Has M r) (f a : Int) (s : ByteArray) : Has (M.write f a s).1 (r.write f a s).1 := by
  unfold Med.write R.write
  by_cases ho : r.off = true
  · have e : M.ready f a s.size = 40 := by rw [ready_rel h, if_pos ho]
    rw [e, if_neg (by decide), if_pos ho]
    exact hh
  · by_cases hb : right f a = false ∨ s.size ≠ 64
    · have e : M.ready f a s.size = 42 := by rw [ready_rel h, if_neg ho, if_pos (by rcases hb with hb | hb; exact .inl hb; exact .inr (by omega))]
      rw [e, if_neg (by decide), if_neg ho, if_pos hb]
      exact hh
    · have e : M.ready f a s.size = 0 := by rw [ready_rel h, if_neg ho, if_neg (fun k => hb (by rcases k with k | k; exact .inl k; exact .inr (by omega)))]
      rw [e, if_pos rfl, if_neg ho, if_neg hb]
      obtain ⟨hs, hr⟩ := h.spend
      rcases hs with ⟨e1, e2⟩ | ⟨e1, e2⟩
      · rw [if_pos e1, if_pos e2]
        intro g
        show (if g = f then true else M.spend.1.has g) = true ↔ ∃ x ∈ put f a s r.act.1.L, x.1 = g
        rw [mem_put, spend_has, act_L]
        by_cases hg : g = f
        · simp [hg]
        · rw [if_neg hg, hh g]; simp [hg]
      · rw [if_neg (by rw [e1]; decide), if_neg (by rw [e2]; decide)]
        exact fun g => by rw [spend_has, act_L]; exact hh g
theorem Has.arm {M : Med} {r : R} (h : Has M r) (x : Int) : Has (M.arm x) (r.arm x) := h
theorem Has.on {M : Med} {r : R} (h : Has M r) : Has M.on r.on := h
theorem seek_mem {f a : Int} : ∀ {l : List Ref.Item} {x : Ref.Item}, x ∈ l → x.1 = f → x.2.1 = a → (seekR f a l).isSome = true := by
  intro l
  induction l with
  | nil => intro x h; cases h
  | cons y l ih =>
    intro x h e1 e2
    rw [seekR]
    by_cases hc : y.1 = f ∧ y.2.1 = a
    · rw [if_pos hc]; rfl
    · rw [if_neg hc]
      rcases List.mem_cons.1 h with h | h
      · subst h; exact absurd ⟨e1, e2⟩ hc
      · exact ih h e1 e2
theorem seek_of {f a : Int} : ∀ {l : List Ref.Item} {s : ByteArray}, seekR f a l = some s → ∃ x ∈ l, x.1 = f ∧ x.2.1 = a := by
  intro l
  induction l with
  | nil => intro s h; cases h
  | cons y l ih =>
    intro s h
    rw [seekR] at h
    by_cases hc : y.1 = f ∧ y.2.1 = a
    · exact ⟨y, List.mem_cons_self, hc⟩
    · rw [if_neg hc] at h
      obtain ⟨x, hx, e⟩ := ih h
      exact ⟨x, List.mem_cons_of_mem _ hx, e⟩
theorem rsz_lo (f : Int) : ∀ (l : List Ref.Item) (n : Int), n ≤ l.foldl (rsz1 f) n ∧ (∀ x ∈ l, x.1 = f → x.2.1 + 1 ≤ l.foldl (rsz1 f) n) ∧ (l.foldl (rsz1 f) n = n ∨ ∃ x ∈ l, x.1 = f ∧ l.foldl (rsz1 f) n = x.2.1 + 1) := by
  intro l
  induction l with
  | nil => intro n; exact ⟨Int.le_refl _, fun x h => (by cases h), .inl rfl⟩
  | cons y l ih =>
    intro n
    obtain ⟨h1, h2, h3⟩ := ih (rsz1 f n y)
    rw [List.foldl_cons]
    have hy : n ≤ rsz1 f n y := by unfold rsz1; split <;> (try split) <;> omega
    refine ⟨by omega, fun x hx e => ?_, ?_⟩
    · rcases List.mem_cons.1 hx with hx | hx
      · subst hx
        have : x.2.1 + 1 ≤ rsz1 f n x := by unfold rsz1; rw [if_pos e]; split <;> omega
        omega
      · exact h2 x hx e
    · rcases h3 with h3 | ⟨x, hx, e, h3⟩
      · rw [h3]
        unfold rsz1
        by_cases e : y.1 = f
        · rw [if_pos e]
          by_cases hlt : n < y.2.1 + 1
          · rw [if_pos hlt]; exact .inr ⟨y, List.mem_cons_self, e, rfl⟩
          · rw [if_neg hlt]; exact .inl rfl
        · rw [if_neg e]; exact .inl rfl
      · exact .inr ⟨x, List.mem_cons_of_mem _ hx, e, h3⟩
theorem Rel.size {M : Med} {r : R} (h : Rel M r) (hr : Ranged M) (f : Int) : IsSize M f (rsz f r.L) := by
  obtain ⟨h1, h2, h3⟩ := rsz_lo f r.L 0
  have hx : ∀ x ∈ r.L, 0 ≤ x.2.1 ∧ x.2.1 < 65536 := fun x hx => by
    have := seek_mem hx rfl rfl
    obtain ⟨s, hs⟩ := Option.isSome_iff_exists.1 this
    rw [← h.S] at hs
    exact (hr _ _ _ hs).2.2
  refine ⟨h1, ?_, fun i s hs => ?_, ?_⟩
  · unfold rsz
    rcases h3 with e | ⟨x, hm, _, e⟩
    · rw [e]; decide
    · rw [e]; have := hx x hm; omega
  · rw [h.S] at hs
    obtain ⟨x, hm, e1, e2⟩ := seek_of hs
    have := h2 x hm e1
    unfold rsz; omega
  · rcases h3 with e | ⟨x, hm, e1, e⟩
    · exact .inl e
    · right
      have := seek_mem hm e1 rfl
      obtain ⟨s, hs⟩ := Option.isSome_iff_exists.1 this
      exact ⟨s, by rw [h.S, show rsz f r.L - 1 = x.2.1 from by unfold rsz; omega]; exact hs⟩
theorem mem_ins (f g : Int) (l : List Int) : g ∈ ins f l ↔ g = f ∨ g ∈ l := by
  induction l with
  | nil => simp [ins]
  | cons x l ih =>
    unfold ins
    split
    · simp only [List.mem_cons, ih]
      constructor
      · rintro (e | e | e)
        · exact .inr (.inl e)
        · exact .inl e
        · exact .inr (.inr e)
      · rintro (e | e | e)
        · exact .inr (.inl e)
        · exact .inl e
        · exact .inr (.inr e)
    · split
      · rename_i e
        simp only [List.mem_cons]
        constructor
        · intro h; exact .inr h
        · rintro (h | h)
          · exact .inl (by rw [h, e])
          · exact h
      · simp only [List.mem_cons]
theorem ins_up (f : Int) {l : List Int} (h : l.Pairwise (· < ·)) : (ins f l).Pairwise (· < ·) := by
  induction l with
  | nil => simp [ins]
  | cons x l ih =>
    obtain ⟨h1, h2⟩ := List.pairwise_cons.1 h
    unfold ins
    split
    · rename_i hx
      refine List.pairwise_cons.2 ⟨fun g hg => ?_, ih h2⟩
      rcases (mem_ins f g l).1 hg with e | e
      · omega
      · exact h1 g e
    · split
      · exact h
      · refine List.pairwise_cons.2 ⟨fun g hg => ?_, h⟩
        rcases List.mem_cons.1 hg with e | e
        · omega
        · have := h1 g e; omega
theorem files_fold : ∀ (l : List Ref.Item) (out : List Int), out.Pairwise (· < ·) → (l.foldl (fun out x => ins x.1 out) out).Pairwise (· < ·) ∧ ∀ g, g ∈ l.foldl (fun out x => ins x.1 out) out ↔ g ∈ out ∨ ∃ x ∈ l, x.1 = g := by
  intro l
  induction l with
  | nil => intro out h; exact ⟨h, fun g => by simp⟩
  | cons x l ih =>
    intro out h
    obtain ⟨h1, h2⟩ := ih (ins x.1 out) (ins_up x.1 h)
    refine ⟨h1, fun g => ?_⟩
    rw [List.foldl_cons, h2 g, mem_ins]
    simp only [List.mem_cons, exists_eq_or_imp]
    constructor
    · rintro ((e | e) | e)
      · exact .inr (.inl e.symm)
      · exact .inl e
      · exact .inr (.inr e)
    · rintro (e | e | e)
      · exact .inl (.inr e)
      · exact .inl (.inl e.symm)
      · exact .inr e
theorem Has.files {M : Med} {r : R} (h : Has M r) : IsFiles M (filesL r.L) := by
  obtain ⟨h1, h2⟩ := files_fold r.L [] List.Pairwise.nil
  exact ⟨h1, fun f => by rw [h f]; unfold filesL; rw [h2 f]; simp⟩
end Go.Proofs.Ytdjcaogffppdhaa.RefP
