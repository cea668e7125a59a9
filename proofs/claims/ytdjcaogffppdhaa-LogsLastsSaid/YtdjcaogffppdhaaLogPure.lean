/- Of one claim's parts: LogP, LogP2, LogP3, LogP4, LogP5. -/
import Derived.Test.YtdjcaogffppdhaaLogM1
set_option linter.unusedVariables false
set_option linter.unusedSimpArgs false
namespace Go.Proofs.Ytdjcaogffppdhaa.Log
open Go.RowKit Go.Proofs.Ytdjcaogffppdhaa.SumPure Go.Proofs.Ytdjcaogffppdhaa.Sect
open Go.Proofs.Ytdjcaogffppdhaa.Med (IsMed Med Ranged IsSize IsFiles Filed)
open Go.Proofs.Ytdjcaogffppdhaa.FramesPure
/-- A frame, and where it stands. -/
structure Pc where
  f : Int
  a : Int
  n : Int
  d : List UInt8
def Pc.q (p : Pc) : Int := (cnt p.d.length : Int)
theorem Pc.q_pos (p : Pc) : 1 ≤ p.q := by have := cnt_pos p.d.length; unfold Pc.q; omega
structure GoodP (M : Med) (p : Pc) : Prop where
  ok : okLay p.n p.d
  f2 : 2 ≤ p.f
  a0 : 0 ≤ p.a
  a1 : p.a + p.q ≤ 16
  s : ∀ i : Nat, i < cnt p.d.length → M.S p.f (p.a + i) = some (secAt p.n p.d (cnt p.d.length) i)
/-- A sector that is no frame's last. -/
def Front (s : ByteArray) : Prop := ∃ n D i, okLay n D ∧ i + 1 < cnt D.length ∧ s = secAt n D (cnt D.length) i
def Hole (G : ByteArray → Prop) (M : Med) (f a : Int) : Prop := ∀ i s, a ≤ i → M.S f i = some s → G s
def Link (G : ByteArray → Prop) (M : Med) (p p' : Pc) : Prop := p'.n = p.n + 1 ∧ (p'.f = p.f ∧ p'.a = p.a + p.q ∨ p'.f = p.f + 1 ∧ p'.a = 0 ∧ Hole G M p.f (p.a + p.q))
def LastsOk (ps : List Pc) (la : Int → Option Int) : Prop := ∀ p ∈ ps, ∃ p' ∈ ps, p'.f = p.f ∧ la p.f = some p'.n ∧ ∀ p'' ∈ ps, p''.f = p.f → p''.n ≤ p'.n
structure Inv (G : ByteArray → Prop) (M : Med) (L : Lg) (ps : List Pc) : Prop where
  good : ∀ p ∈ ps, GoodP M p
  link : ∀ (i : Nat) p p', ps[i]? = some p → ps[i + 1]? = some p' → Link G M p p'
  fst : ∀ p, ps[0]? = some p → p.a = 0
  lst : ∀ p, ps[ps.length - 1]? = some p → L.file = p.f ∧ L.at' = p.a + p.q ∧ L.next = p.n + 1
  emp : ps = [] → L.file = 2 ∧ L.at' = 0 ∧ L.next = 1
  hole : Hole G M L.file L.at'
  hole1 : ∀ f, L.file < f → Hole G M f 0
  low : ∀ f, 2 ≤ f → M.has f = true → ∀ p, ps[0]? = some p → p.f ≤ f
  high : ∀ f, M.has f = true → f ≤ L.file + (if L.at' = 0 then 0 else 1)
  has : ∀ f i s, M.S f i = some s → M.has f = true
  lasts : LastsOk ps L.lasts
  bd : L.file ≤ L.next + 1
  filed : Filed M
  ranged : Ranged M
theorem GoodP.keep {M M' : Med} {p : Pc} (h : GoodP M p) (k : ∀ i, p.a ≤ i → i < p.a + p.q → M'.S p.f i = M.S p.f i) : GoodP M' p :=
  ⟨h.ok, h.f2, h.a0, h.a1, fun i hi => (k _ (by omega) (by unfold Pc.q; omega)).trans (h.s i hi)⟩
theorem Hole.keep {G : ByteArray → Prop} {M M' : Med} {f a : Int} (h : Hole G M f a) (k : ∀ i, a ≤ i → M'.S f i = M.S f i) : Hole G M' f a := fun i s hi hs => h i s hi ((k i hi) ▸ hs)
section
variable {G : ByteArray → Prop} {M : Med} {L : Lg} {ps : List Pc}
theorem chain_le (link : ∀ (i : Nat) p p', ps[i]? = some p → ps[i + 1]? = some p' → Link G M p p') (d : Nat) : ∀ (i : Nat) p p', ps[i]? = some p → ps[i + d]? = some p' → p'.n = p.n + d ∧ (p.f < p'.f ∨ p.f = p'.f ∧ p.a + p.q ≤ p'.a + p'.q) := by
  induction d with
  | zero => intro i p p' h h'; rw [Nat.add_zero, h] at h'; cases h'; exact ⟨by omega, .inr ⟨rfl, by omega⟩⟩
  | succ d ih =>
    intro i p p' h h'
    have hl := (List.getElem?_eq_some_iff.1 h').1
    have hm : ps[i + d]? = some ps[i + d] := List.getElem?_eq_getElem (by omega)
    obtain ⟨e1, e2⟩ := ih i p _ h hm
    obtain ⟨k1, k2⟩ := link (i + d) _ p' hm h'
    have hq := p'.q_pos
    refine ⟨by omega, ?_⟩
    rcases k2 with ⟨x1, x2⟩ | ⟨x1, x2, _⟩
    · rcases e2 with e2 | ⟨e2, e3⟩
      · exact .inl (by omega)
      · exact .inr ⟨by omega, by omega⟩
    · rcases e2 with e2 | ⟨e2, e3⟩
      · exact .inl (by omega)
      · exact .inl (by omega)
theorem Inv.last (h : Inv G M L ps) (hne : ps ≠ []) : ∃ z, ps[ps.length - 1]? = some z ∧ z ∈ ps := by
  have hl : 0 < ps.length := List.length_pos_iff.2 hne
  exact ⟨ps[ps.length - 1], List.getElem?_eq_getElem (by omega), List.getElem_mem _⟩
theorem Inv.below (h : Inv G M L ps) {i : Nat} {p : Pc} (hp : ps[i]? = some p) : p.n + (ps.length - i : Nat) = L.next ∧ (p.f < L.file ∨ p.f = L.file ∧ p.a + p.q ≤ L.at') := by
  have hl := (List.getElem?_eq_some_iff.1 hp).1
  obtain ⟨z, hz, _⟩ := h.last (by intro e; rw [e] at hl; simp at hl)
  obtain ⟨z1, z2, z3⟩ := h.lst z hz
  obtain ⟨c1, c2⟩ := chain_le h.link (ps.length - 1 - i) i p z hp (by rw [show i + (ps.length - 1 - i) = ps.length - 1 from by omega]; exact hz)
  refine ⟨by omega, ?_⟩
  rcases c2 with c2 | ⟨c2, c3⟩
  · exact .inl (by omega)
  · exact .inr ⟨by omega, by omega⟩
theorem Inv.below' (h : Inv G M L ps) {p : Pc} (hp : p ∈ ps) : p.n < L.next ∧ (p.f < L.file ∨ p.f = L.file ∧ p.a + p.q ≤ L.at') := by
  obtain ⟨i, hi⟩ := List.getElem?_of_mem hp
  have hl := (List.getElem?_eq_some_iff.1 hi).1
  obtain ⟨b1, b2⟩ := h.below hi
  exact ⟨by omega, b2⟩
theorem Inv.at_bd (h : Inv G M L ps) : 2 ≤ L.file ∧ 0 ≤ L.at' ∧ L.at' ≤ 16 ∧ 1 ≤ L.next ∧ (ps ≠ [] → 1 ≤ L.at') := by
  by_cases hne : ps = []
  · obtain ⟨e1, e2, e3⟩ := h.emp hne; exact ⟨by omega, by omega, by omega, by omega, fun k => absurd hne k⟩
  · obtain ⟨z, hz, hm⟩ := h.last hne
    obtain ⟨z1, z2, z3⟩ := h.lst z hz
    have g := h.good z hm
    have hq := z.q_pos
    have h1 := g.f2
    have h2 := g.a0
    have h3 := g.a1
    have h4 := g.ok.1
    exact ⟨by omega, by omega, by omega, by omega, fun _ => by omega⟩
theorem LastsOk.snoc {la : Int → Option Int} {p : Pc} (h : LastsOk ps la) (hn : ∀ x ∈ ps, x.n ≤ p.n) : LastsOk (ps ++ [p]) (fun j => if j = p.f then some p.n else la j) := by
  intro x hx
  by_cases e : x.f = p.f
  · refine ⟨p, by simp, e.symm, by simp [e], fun y hy _ => ?_⟩
    rcases List.mem_append.1 hy with hy | hy
    · exact hn y hy
    · rw [List.mem_singleton.1 hy]; omega
  · rcases List.mem_append.1 hx with hx | hx
    · obtain ⟨p', m, e1, e2, e3⟩ := h x hx
      refine ⟨p', by simp [m], e1, by simp [e, e2], fun y hy hf => ?_⟩
      rcases List.mem_append.1 hy with hy | hy
      · exact e3 y hy hf
      · rw [List.mem_singleton.1 hy] at hf; exact absurd hf.symm e
    · rw [List.mem_singleton.1 hx] at e; exact absurd rfl e
end
/-- What sectors written one behind the other leave. -/
structure Wrote (f b : Int) (ss : List ByteArray) (M : Med) (R : Med × Int) (j : Nat) : Prop where
  le : j ≤ ss.length
  S : ∀ f' x, R.1.S f' x = if f' = f ∧ b ≤ x ∧ x < b + j then ss[(x - b).toNat]? else M.S f' x
  has : ∀ f', R.1.has f' = (M.has f' || decide (f' = f ∧ 0 < j))
  out : (R.2 = 0 ∧ j = ss.length ∧ R.1.off = false ∧ (M.left < 0 → R.1.left < 0)) ∨ (R.2 = 40 ∧ j < ss.length ∧ ¬M.left < 0)
theorem appW_spec (f a : Int) (hf : 0 ≤ f ∧ f < 1048576) (ha : 0 ≤ a) : ∀ (ss : List ByteArray) (i : Nat) (M : Med), (∀ s ∈ ss, s.size = 64) → a + i + ss.length ≤ 16 → M.off = false → ∃ j, Wrote f (a + i) ss M (appW f a ss i M) j := by
  intro ss
  induction ss with
  | nil =>
    intro i M _ _ ho
    refine ⟨0, Nat.le_refl _, fun f' x => ?_, fun f' => ?_, .inl ⟨rfl, rfl, ho, fun h => h⟩⟩
    · rw [if_neg (by omega)]; rfl
    · show M.has f' = _; simp
  | cons s ss ih =>
    intro i M hs hl ho
    simp only [List.length_cons] at hl
    have h64 : ((s.size : Nat) : Int) = 64 := by have := hs s List.mem_cons_self; omega
    have hr : M.ready f (a + i) s.size = 0 := by unfold Med.Med.ready; rw [ho]; simp only [Bool.false_eq_true, if_false]; rw [if_neg (by omega)]
    have hw : M.write f (a + i) s = if M.spend.2 = 0 then ((M.spend.1.made f).put f (a + i) s, 0) else M.spend := by unfold Med.Med.write; rw [if_pos hr]
    by_cases hz : M.left = 0
    · have e : M.spend = ({ M with off := true }, 40) := by unfold Med.Med.spend; rw [if_pos hz]
      have hw2 : M.write f (a + i) s = ({ M with off := true }, 40) := by rw [hw, e]; rfl
      have e2 : appW f a (s :: ss) i M = ({ M with off := true }, 40) := by show (if _ then _ else _) = _; rw [hw2]; rfl
      rw [e2]
      refine ⟨0, Nat.zero_le _, fun f' x => ?_, fun f' => ?_, .inr ⟨rfl, by simp, by omega⟩⟩
      · rw [if_neg (by omega)]
      · simp
    · have e : M.spend = ({ M with left := if M.left > 0 then M.left - 1 else -1, writes := M.writes + 1 }, 0) := by unfold Med.Med.spend; rw [if_neg hz]
      obtain ⟨M1, hM1⟩ : ∃ M1, M1 = (M.spend.1.made f).put f (a + i) s := ⟨_, rfl⟩
      have hw2 : M.write f (a + i) s = (M1, 0) := by rw [hw, e, hM1, e]; rfl
      have e2 : appW f a (s :: ss) i M = appW f a ss (i + 1) M1 := by show (if _ then _ else _) = _; rw [hw2]; rfl
      have hS1 : ∀ f' x, M1.S f' x = if f' = f ∧ x = a + i then some s else M.S f' x := fun f' x => by rw [hM1, e]; rfl
      have hh1 : ∀ f', M1.has f' = if f' = f then true else M.has f' := fun f' => by rw [hM1, e]; rfl
      have ho1 : M1.off = false := by rw [hM1, e]; exact ho
      have hl1 : M.left < 0 → M1.left < 0 := by intro k; rw [hM1, e]; show (if M.left > 0 then M.left - 1 else -1) < 0; rw [if_neg (by omega)]; omega
      have hl2 : ¬M.left < 0 → True := fun _ => trivial
      obtain ⟨j, w⟩ := ih (i + 1) M1 (fun x hx => hs x (List.mem_cons_of_mem _ hx)) (by omega) ho1
      rw [e2]
      refine ⟨j + 1, by have := w.le; simp; omega, fun f' x => ?_, fun f' => ?_, ?_⟩
      · rw [w.S, hS1]
        by_cases k1 : f' = f ∧ a + ((i + 1 : Nat) : Int) ≤ x ∧ x < a + ((i + 1 : Nat) : Int) + (j : Int)
        · rw [if_pos k1, if_pos ⟨k1.1, by omega, by omega⟩, show (x - (a + (i : Int))).toNat = (x - (a + ((i + 1 : Nat) : Int))).toNat + 1 from by omega, List.getElem?_cons_succ]
        · rw [if_neg k1]
          by_cases k2 : f' = f ∧ x = a + i
          · rw [if_pos k2, if_pos ⟨k2.1, by omega, by omega⟩, show (x - (a + (i : Int))).toNat = 0 from by omega]; rfl
          · rw [if_neg k2, if_neg (by omega)]
      · rw [w.has, hh1]
        by_cases k : f' = f
        · simp [k]
        · simp [k]
      · rcases w.out with ⟨o1, o2, o3, o4⟩ | ⟨o1, o2, o3⟩
        · exact .inl ⟨o1, by simp [o2], o3, fun k => o4 (hl1 k)⟩
        · exact .inr ⟨o1, by simp; omega, fun k => o3 (hl1 k)⟩
end Go.Proofs.Ytdjcaogffppdhaa.Log
namespace Go.Proofs.Ytdjcaogffppdhaa.Log
open Go.RowKit Go.Proofs.Ytdjcaogffppdhaa.SumPure Go.Proofs.Ytdjcaogffppdhaa.Sect
open Go.Proofs.Ytdjcaogffppdhaa.Med (IsMed Med Ranged IsSize IsFiles Filed)
open Go.Proofs.Ytdjcaogffppdhaa.FramesPure
theorem secs_size {n : Int} {D : List UInt8} : ∀ s ∈ secs n D, s.size = 64 := by
  intro s hs
  obtain ⟨i, hi, rfl⟩ := List.mem_map.1 hs
  unfold secAt
  rw [size_mk, Sect.sect_len _ _ _ _ (by rw [chunk_len]; omega)]
theorem secs_at {n : Int} {D : List UInt8} {j : Nat} {s : ByteArray} (h : (secs n D)[j]? = some s) : j < cnt D.length ∧ s = secAt n D (cnt D.length) j := by
  have hl := (List.getElem?_eq_some_iff.1 h).1
  rw [secs_len] at hl
  unfold secs at h
  rw [List.getElem?_map, List.getElem?_range hl] at h
  exact ⟨hl, (Option.some.inj h).symm⟩
section
variable {G : ByteArray → Prop} {M : Med} {L : Lg} {ps : List Pc}
/-- Sectors are written behind the tail. -/
theorem Inv.wrote (h : Inv G M L ps) {D : List UInt8} {F A : Int} {R : Med × Int} {j : Nat} (hD : okLay L.next D) (w : Wrote F A (secs L.next D) M R j)
    (hFA : (F = L.file ∧ A = L.at' ∧ A + (cnt D.length : Int) ≤ 16) ∨ (F = L.file + 1 ∧ A = 0 ∧ 16 < L.at' + (cnt D.length : Int))) (hn : L.next ≤ 1000000) :
    (j < cnt D.length → (∀ s, Front s → G s) → Inv G R.1 L ps) ∧ (j = cnt D.length → Inv G R.1 ⟨F, A + (cnt D.length : Int), L.next + 1, fun j => if j = F then some L.next else L.lasts j⟩ (ps ++ [⟨F, A, L.next, D⟩])) := by
  obtain ⟨b1, b2, b3, b4, b5⟩ := h.at_bd
  have hbd := h.bd
  have hc := cnt_pos D.length
  have hc8 := (cnt_le D.length).2 hD.2.2
  have hjl : j ≤ cnt D.length := by have := w.le; rwa [secs_len] at this
  have hol : ∀ f' x s, R.1.S f' x = some s → M.S f' x = some s ∨ (f' = F ∧ A ≤ x ∧ x < A + j ∧ s = secAt L.next D (cnt D.length) (x - A).toNat) := by
    intro f' x s hs
    rw [w.S] at hs
    split at hs
    · rename_i k
      exact .inr ⟨k.1, k.2.1, k.2.2, (secs_at hs).2⟩
    · exact .inl hs
  have keep : ∀ f' x, f' ≠ F ∨ x < A → R.1.S f' x = M.S f' x := by
    intro f' x k
    rw [w.S, if_neg (by omega)]
  have hgood : ∀ p ∈ ps, GoodP R.1 p := fun p hp => (h.good p hp).keep fun x x1 x2 => keep _ _ (by
    obtain ⟨_, k⟩ := h.below' hp
    omega)
  have hlink : ∀ (i : Nat) p p', ps[i]? = some p → ps[i + 1]? = some p' → Link G R.1 p p' := by
    intro i p p' hp hp'
    obtain ⟨k1, k2⟩ := h.link i p p' hp hp'
    refine ⟨k1, ?_⟩
    rcases k2 with k2 | ⟨x1, x2, x3⟩
    · exact .inl k2
    · refine .inr ⟨x1, x2, x3.keep fun x _ => keep _ _ ?_⟩
      obtain ⟨_, k⟩ := h.below hp'
      omega
  have hhas : ∀ f i s, R.1.S f i = some s → R.1.has f = true := by
    intro f i s hs
    rw [w.has]
    rcases hol f i s hs with k | ⟨k1, k2, k3, _⟩
    · rw [h.has f i s k]; rfl
    · simp [k1]; omega
  have hmem : ∀ f, R.1.has f = true → M.has f = true ∨ f = F := by
    intro f hf
    rw [w.has] at hf
    rcases Bool.or_eq_true_iff.1 hf with k | k
    · exact .inl k
    · exact .inr (of_decide_eq_true k).1
  have hfiled : Filed R.1 := by
    intro f hf
    rcases hmem f hf with k | k
    · exact h.filed f k
    · omega
  have hranged : Ranged R.1 := by
    intro f i s hs
    rcases hol f i s hs with k | ⟨k1, k2, k3, _⟩
    · exact h.ranged f i s k
    · omega
  have hlow : ∀ f, 2 ≤ f → R.1.has f = true → ∀ p, ps[0]? = some p → p.f ≤ f := by
    intro f f2 hf p hp
    rcases hmem f hf with k | k
    · exact h.low f f2 k p hp
    · obtain ⟨_, k⟩ := h.below hp
      omega
  refine ⟨fun hj hG => ?_, fun hj => ?_⟩
  · have fr : ∀ f' x s, R.1.S f' x = some s → M.S f' x = some s ∨ G s := by
      intro f' x s hs
      rcases hol f' x s hs with k | ⟨k1, k2, k3, k4⟩
      · exact .inl k
      · exact .inr (hG s ⟨L.next, D, (x - A).toNat, hD, by omega, k4⟩)
    exact { good := hgood, link := hlink, fst := h.fst, lst := h.lst, emp := h.emp,
            hole := fun i s hi hs => (fr _ _ _ hs).elim (fun k => h.hole i s hi k) id,
            hole1 := fun f hf i s hi hs => (fr _ _ _ hs).elim (fun k => h.hole1 f hf i s hi k) id,
            low := hlow,
            high := fun f hf => by
              rcases hmem f hf with k | k
              · exact h.high f k
              · split <;> omega
            has := hhas, lasts := h.lasts, bd := h.bd, filed := hfiled, ranged := hranged }
  · have hnew : GoodP R.1 ⟨F, A, L.next, D⟩ := by
      refine ⟨hD, by show 2 ≤ F; omega, by show 0 ≤ A; omega, by show A + (cnt D.length : Int) ≤ 16; omega, fun i hi => ?_⟩
      show R.1.S F (A + i) = _
      have hi' : i < cnt D.length := hi
      rw [w.S, if_pos ⟨rfl, by omega, by omega⟩, show (A + (i : Int) - A).toNat = i from by omega]
      unfold secs
      rw [List.getElem?_map, List.getElem?_range hi']; rfl
    have old : ∀ f' x s, R.1.S f' x = some s → (f' ≠ F ∨ A + (cnt D.length : Int) ≤ x) → M.S f' x = some s := by
      intro f' x s hs k
      rcases hol f' x s hs with k' | ⟨k1, k2, k3, k4⟩
      · exact k'
      · omega
    exact {
      good := fun p hp => by
        rcases List.mem_append.1 hp with hp | hp
        · exact hgood p hp
        · rw [List.mem_singleton.1 hp]; exact hnew
      link := fun i p p' hp hp' => by
        by_cases hi : i + 1 < ps.length
        · rw [List.getElem?_append_left (by omega)] at hp hp'
          exact hlink i p p' hp hp'
        · have hl := (List.getElem?_eq_some_iff.1 hp').1
          simp at hl
          have hi' : i + 1 = ps.length := by omega
          rw [List.getElem?_append_left (by omega)] at hp
          rw [List.getElem?_append_right (by omega), hi', Nat.sub_self] at hp'
          obtain rfl := Option.some.inj hp'
          obtain ⟨z1, z2, z3⟩ := h.lst p (by rw [show ps.length - 1 = i from by omega]; exact hp)
          refine ⟨z3, ?_⟩
          rcases hFA with ⟨k1, k2, _⟩ | ⟨k1, k2, _⟩
          · exact .inl ⟨by show F = _; omega, by show A = _; omega⟩
          · refine .inr ⟨by show F = _; omega, k2, fun x s hx hs => ?_⟩
            rw [← z1] at hs
            exact h.hole x s (by omega) (old _ _ _ hs (.inl (by omega)))
      fst := fun p hp => by
        by_cases hne : ps = []
        · rw [hne] at hp
          obtain rfl := Option.some.inj hp
          obtain ⟨e1, e2, e3⟩ := h.emp hne
          show A = 0
          omega
        · have hl : 0 < ps.length := List.length_pos_iff.2 hne
          rw [List.getElem?_append_left hl] at hp
          exact h.fst p hp
      lst := fun p hp => by
        rw [List.length_append, List.getElem?_append_right (by simp)] at hp
        simp at hp
        rw [← hp]
        exact ⟨rfl, rfl, rfl⟩
      emp := fun he => by simp at he
      hole := fun x s hx hs => by
        have k := old _ _ _ hs (.inr hx)
        have hx' : A + (cnt D.length : Int) ≤ x := hx
        rcases hFA with ⟨k1, k2, _⟩ | ⟨k1, k2, _⟩
        · rw [show (⟨F, A + (cnt D.length : Int), L.next + 1, fun j => if j = F then some L.next else L.lasts j⟩ : Lg).file = L.file from k1] at k
          exact h.hole x s (by omega) k
        · exact h.hole1 F (by omega) x s (by omega) k
      hole1 := fun f hf x s hx hs => by
        have hf' : F < f := hf
        exact h.hole1 f (by omega) x s hx (old _ _ _ hs (.inl (by omega)))
      low := fun f f2 hf p hp => by
        by_cases hne : ps = []
        · rw [hne] at hp
          obtain rfl := Option.some.inj hp
          obtain ⟨e1, e2, e3⟩ := h.emp hne
          show F ≤ f
          omega
        · have hl : 0 < ps.length := List.length_pos_iff.2 hne
          rw [List.getElem?_append_left hl] at hp
          exact hlow f f2 hf p hp
      high := fun f hf => by
        show f ≤ F + (if A + (cnt D.length : Int) = 0 then 0 else 1)
        rw [if_neg (by omega)]
        rcases hmem f hf with k | k
        · have := h.high f k
          split at this <;> omega
        · omega
      has := hhas
      lasts := LastsOk.snoc (p := ⟨F, A, L.next, D⟩) h.lasts fun x hx => by have := (h.below' hx).1; show x.n ≤ L.next; omega
      bd := by show F ≤ L.next + 1 + 1; omega
      filed := hfiled
      ranged := hranged }
end
theorem Inv.append {G : ByteArray → Prop} {M : Med} {L : Lg} {ps : List Pc} (h : Inv G M L ps) {D : List UInt8} (hD : D.length ≤ 440) (ho : M.off = false) (hn : L.next ≤ 1000000) (hG : M.left < 0 ∨ ∀ s, Front s → G s) :
    ((appendL M L D).2.2.2 = 0 ∧ (appendL M L D).2.2.1 = L.next ∧ (appendL M L D).1.off = false ∧ (M.left < 0 → (appendL M L D).1.left < 0) ∧ (appendL M L D).2.1.next = L.next + 1 ∧ ∃ p : Pc, p.n = L.next ∧ p.d = D ∧ (p.f = L.file ∧ p.a = L.at' ∨ p.f = L.file + 1 ∧ p.a = 0 ∧ 16 < L.at' + p.q) ∧ Inv G (appendL M L D).1 (appendL M L D).2.1 (ps ++ [p])) ∨
    ((appendL M L D).2.2.2 = 40 ∧ ¬M.left < 0 ∧ Inv G (appendL M L D).1 L ps) := by
  obtain ⟨b1, b2, b3, b4, b5⟩ := h.at_bd
  have hbd := h.bd
  have hok : okLay L.next D := ⟨b4, by omega, hD⟩
  have el : layP L.next D = (secs L.next D, 0) := by unfold layP; rw [if_pos hok]
  have hc := cnt_pos D.length
  have hc8 := (cnt_le D.length).2 hD
  have eq1 : appendL M L D = if (appW (movedL L (cnt D.length : Int)).file (movedL L (cnt D.length : Int)).at' (secs L.next D) 0 M).2 ≠ 0 then ((appW (movedL L (cnt D.length : Int)).file (movedL L (cnt D.length : Int)).at' (secs L.next D) 0 M).1, movedL L (cnt D.length : Int), 0, (appW (movedL L (cnt D.length : Int)).file (movedL L (cnt D.length : Int)).at' (secs L.next D) 0 M).2)
      else ((appW (movedL L (cnt D.length : Int)).file (movedL L (cnt D.length : Int)).at' (secs L.next D) 0 M).1, doneL (movedL L (cnt D.length : Int)) (cnt D.length : Int), L.next, 0) := by
    unfold appendL
    rw [el]
    simp only [ne_eq, not_true_eq_false, if_false, secs_len]
  have hmv : ∃ F A, movedL L (cnt D.length : Int) = { L with file := F, at' := A } ∧ ((F = L.file ∧ A = L.at' ∧ A + (cnt D.length : Int) ≤ 16) ∨ (F = L.file + 1 ∧ A = 0 ∧ 16 < L.at' + (cnt D.length : Int))) := by
    unfold movedL
    by_cases k : L.at' + (cnt D.length : Int) > 16
    · rw [if_pos k]; exact ⟨_, _, rfl, .inr ⟨rfl, rfl, k⟩⟩
    · rw [if_neg k]; exact ⟨_, _, rfl, .inl ⟨rfl, rfl, by omega⟩⟩
  obtain ⟨F, A, em, hFA⟩ := hmv
  rw [em] at eq1
  simp only [] at eq1
  obtain ⟨j, w⟩ := appW_spec F A (by omega) (by omega) (secs L.next D) 0 M secs_size (by rw [secs_len]; omega) ho
  rw [show A + ((0 : Nat) : Int) = A from by omega] at w
  generalize appW F A (secs L.next D) 0 M = R at *
  obtain ⟨h1, h2⟩ := h.wrote hok w hFA hn
  rw [eq1]
  rcases w.out with ⟨o1, o2, o3, o4⟩ | ⟨o1, o2, o3⟩
  · left
    rw [if_neg (by simp [o1])]
    rw [secs_len] at o2
    exact ⟨rfl, rfl, o3, o4, rfl, ⟨F, A, L.next, D⟩, rfl, rfl, hFA.imp (fun k => ⟨k.1, k.2.1⟩) (fun k => k), h2 o2⟩
  · right
    rw [if_pos (by simp [o1])]
    rw [secs_len] at o2
    exact ⟨o1, o3, h1 o2 (hG.resolve_left o3)⟩
end Go.Proofs.Ytdjcaogffppdhaa.Log
namespace Go.Proofs.Ytdjcaogffppdhaa.Log
open Go.RowKit Go.Proofs.Ytdjcaogffppdhaa.SumPure Go.Proofs.Ytdjcaogffppdhaa.Sect
open Go.Proofs.Ytdjcaogffppdhaa.Med (IsMed Med Ranged IsSize IsFiles Filed)
open Go.Proofs.Ytdjcaogffppdhaa.FramesPure
theorem read_some {M : Med} (hr : Ranged M) (ho : M.off = false) {f i : Int} {s : ByteArray} (hs : M.S f i = some s) : M.read f i = (s, 0) := by
  have k := hr f i s hs
  have e : M.ready f i 64 = 0 := by unfold Med.Med.ready; rw [ho]; simp only [Bool.false_eq_true, if_false]; rw [if_neg (by omega)]
  unfold Med.Med.read
  rw [if_pos e, hs]
theorem read_zero {M : Med} {f i : Int} (h : (M.read f i).2 = 0) : M.S f i = some (M.read f i).1 := by
  unfold Med.Med.read at h ⊢
  by_cases e : M.ready f i 64 = 0
  · rw [if_pos e] at h ⊢
    cases hs : M.S f i with
    | none => rw [hs] at h; exact absurd h (by show ¬((41 : Int) = 0); decide)
    | some s => rfl
  · rw [if_neg e] at h; exact absurd h e
theorem collect_mem {M : Med} {f : Int} {s : ByteArray} : ∀ (k : Nat) (i : Int), s ∈ collect M f k i → ∃ x, i ≤ x ∧ M.S f x = some s := by
  intro k
  induction k with
  | zero => intro i h; simp [collect] at h
  | succ k ih =>
    intro i h
    rw [collect] at h
    split at h
    · rename_i hz
      rcases List.mem_cons.1 h with rfl | h
      · exact ⟨i, Int.le_refl _, read_zero hz⟩
      · obtain ⟨x, x1, x2⟩ := ih (i + 1) h
        exact ⟨x, by omega, x2⟩
    · simp at h
theorem collect_pre {M : Med} {f : Int} : ∀ (ss : List ByteArray) (k : Nat) (i : Int), ss.length ≤ k → (∀ (j : Nat) s, ss[j]? = some s → M.read f (i + j) = (s, 0)) → ∃ tl, collect M f k i = ss ++ tl := by
  intro ss
  induction ss with
  | nil => intro k i _ _; exact ⟨_, rfl⟩
  | cons s ss ih =>
    intro k i hk h
    simp only [List.length_cons] at hk
    obtain ⟨k, rfl⟩ : ∃ m, k = m + 1 := ⟨k - 1, by omega⟩
    have h0 := h 0 s rfl
    rw [show i + ((0 : Nat) : Int) = i from by omega] at h0
    obtain ⟨tl, e⟩ := ih k (i + 1) (by omega) fun j x hx => by
      have := h (j + 1) x (by rw [List.getElem?_cons_succ]; exact hx)
      rw [show i + ((j + 1 : Nat) : Int) = i + 1 + (j : Int) from by omega] at this
      exact this
    exact ⟨tl, by rw [collect, h0, e]; rfl⟩
theorem found_hole {G : ByteArray → Prop} {M : Med} {f a : Int} (h : Hole G M f a) (hG : ∀ s, G s → Front s) (S : Lg × List Fr) : foundP M S f a = none := by
  unfold foundP
  rcases join_back (collect M f (16 - a).toNat a) with e | ⟨n, D, ok, h2, h3, e⟩
  · rw [if_pos (.inl (by rw [e]; decide))]
  · exfalso
    have hc := cnt_pos D.length
    have hl : (secs n D)[cnt D.length - 1]? = some (secAt n D (cnt D.length) (cnt D.length - 1)) := by
      unfold secs
      rw [List.getElem?_map, List.getElem?_range (by omega)]; rfl
    rw [h2, List.getElem?_take_of_lt (by omega)] at hl
    obtain ⟨x, x1, x2⟩ := collect_mem _ _ (List.mem_of_getElem? hl)
    obtain ⟨n', D', i, ok', hi, es⟩ := hG _ (h x _ x1 x2)
    have t1 := tell_sec ok (i := cnt D.length - 1) (by omega)
    rw [es, tell_sec ok' (by omega)] at t1
    have := Option.some.inj t1
    simp only [Prod.mk.injEq] at this
    have a1 := this.2.1
    have a2 := this.2.2.1
    omega
theorem found_good {M : Med} {p : Pc} (hr : Ranged M) (ho : M.off = false) (g : GoodP M p) (S : Lg × List Fr) (hS : S.2 = [] ∨ p.n = S.1.next) :
    foundP M S p.f p.a = some (⟨p.f, p.a + p.q, p.n + 1, fun j => if j = p.f then some p.n else S.1.lasts j⟩, S.2 ++ [(p.n, ⟨p.d.toArray⟩)]) := by
  have h1 := g.a1
  have h0 := g.a0
  unfold Pc.q at h1
  obtain ⟨tl, e⟩ := collect_pre (M := M) (f := p.f) (secs p.n p.d) (16 - p.a).toNat p.a (by rw [secs_len]; omega) fun j s hs => by
    obtain ⟨k1, rfl⟩ := secs_at hs
    exact read_some hr ho (g.s j k1)
  unfold foundP
  rw [e, join_secs g.ok]
  rw [if_neg (by
    rintro (k | ⟨k1, k2⟩)
    · exact k rfl
    · exact hS.elim k1 k2)]
  rfl
def fr (p : Pc) : Fr := (p.n, ⟨p.d.toArray⟩)
section
variable {G : ByteArray → Prop} {M : Med} {L : Lg} {ps : List Pc}
theorem Inv.runs (h : Inv G M L ps) (hG : ∀ s, G s → Front s) (ho : M.off = false) (d : Nat) : ∀ (k : Nat) (K : Lg), k + d = ps.length → LastsOk (ps.take k) K.lasts →
    (k = 0 → K.at' = 0 ∧ K.next = 1 ∧ (ps = [] → K.file = 2) ∧ ∀ p, ps[0]? = some p → K.file = p.f) →
    (∀ p, 0 < k → ps[k - 1]? = some p → K.file = p.f ∧ K.at' = p.a + p.q ∧ K.next = p.n + 1) →
    ∃ la, Runs M (K, (ps.take k).map fr) ({ L with lasts := la }, ps.map fr) ∧ LastsOk ps la := by
  induction d with
  | zero =>
    intro k K hk hL h0 h1
    have hkl : k = ps.length := by omega
    rw [hkl, List.take_length] at hL ⊢
    have eK : K = { L with lasts := K.lasts } := by
      by_cases hne : ps = []
      · obtain ⟨e1, e2, e3⟩ := h.emp hne
        obtain ⟨f1, f2, f3, _⟩ := h0 (by rw [hkl, hne]; rfl)
        have f3 := f3 hne
        cases K; cases L
        simp only [Lg.mk.injEq] at *
        exact ⟨by omega, by omega, by omega, trivial⟩
      · obtain ⟨z, hz, _⟩ := h.last hne
        obtain ⟨e1, e2, e3⟩ := h.lst z hz
        have hpos : 0 < ps.length := List.length_pos_iff.2 hne
        obtain ⟨f1, f2, f3⟩ := h1 z (by omega) (by rw [hkl]; exact hz)
        cases K; cases L
        simp only [Lg.mk.injEq] at *
        exact ⟨by omega, by omega, by omega, trivial⟩
    refine ⟨K.lasts, ?_, hL⟩
    rw [← eK]
    refine .stop ?_
    have q1 : K.file = L.file := by rw [eK]
    have q2 : K.at' = L.at' := by rw [eK]
    unfold stepP
    rw [show foundP M (K, ps.map fr) (K, ps.map fr).1.file (K, ps.map fr).1.at' = none from by
      show foundP M _ K.file K.at' = none
      rw [q1, q2]; exact found_hole h.hole hG _]
    show (if K.at' > 0 then foundP M (K, ps.map fr) (K.file + 1) 0 else none) = none
    rw [q1, found_hole (h.hole1 (L.file + 1) (by omega)) hG]
    split <;> rfl
  | succ d ih =>
    intro k K hk hL h0 h1
    have hkl : k < ps.length := by omega
    have hp : ps[k]? = some ps[k] := List.getElem?_eq_getElem hkl
    generalize ps[k] = p at hp
    have g := h.good p (List.mem_of_getElem? hp)
    have htk : ps.take (k + 1) = ps.take k ++ [p] := by rw [List.take_add_one, hp]; rfl
    have hfs : (ps.take k).map fr = [] ∨ p.n = K.next := by
      rcases Nat.eq_zero_or_pos k with e | e
      · left; rw [e]; rfl
      · right
        have hq : ps[k - 1]? = some ps[k - 1] := List.getElem?_eq_getElem (by omega)
        obtain ⟨_, _, f3⟩ := h1 _ e hq
        obtain ⟨l1, _⟩ := h.link (k - 1) _ p hq (by rw [show k - 1 + 1 = k from by omega]; exact hp)
        omega
    have hfound := found_good h.ranged ho g (K, (ps.take k).map fr) hfs
    have hstep : stepP M (K, (ps.take k).map fr) = some (⟨p.f, p.a + p.q, p.n + 1, fun j => if j = p.f then some p.n else K.lasts j⟩, (ps.take (k + 1)).map fr) := by
      rw [htk, List.map_append]
      show stepP M (K, (ps.take k).map fr) = some (_, (ps.take k).map fr ++ [fr p])
      have done : K.file = p.f → K.at' = p.a → stepP M (K, (ps.take k).map fr) = some (⟨p.f, p.a + p.q, p.n + 1, fun j => if j = p.f then some p.n else K.lasts j⟩, (ps.take k).map fr ++ [fr p]) := by
        intro e1 e2
        unfold stepP
        rw [show foundP M (K, (ps.take k).map fr) (K, (ps.take k).map fr).1.file (K, (ps.take k).map fr).1.at' = foundP M (K, (ps.take k).map fr) p.f p.a from by rw [← e1, ← e2], hfound]
        rfl
      rcases Nat.eq_zero_or_pos k with e | e
      · subst e
        obtain ⟨f1, f2, _, f3⟩ := h0 rfl
        exact done (f3 p hp) (by rw [h.fst p hp]; exact f1)
      · have hq : ps[k - 1]? = some ps[k - 1] := List.getElem?_eq_getElem (by omega)
        obtain ⟨f1, f2, f3⟩ := h1 _ e hq
        have gq := h.good _ (List.mem_of_getElem? hq)
        have qp := (ps[k - 1]).q_pos
        have qa := gq.a0
        obtain ⟨l1, l2⟩ := h.link (k - 1) _ p hq (by rw [show k - 1 + 1 = k from by omega]; exact hp)
        rcases l2 with ⟨x1, x2⟩ | ⟨x1, x2, x3⟩
        · exact done (by omega) (by omega)
        · unfold stepP
          rw [show foundP M (K, (ps.take k).map fr) (K, (ps.take k).map fr).1.file (K, (ps.take k).map fr).1.at' = none from by
            show foundP M _ K.file K.at' = none
            rw [f1, f2]; exact found_hole x3 hG _]
          show (if K.at' > 0 then foundP M (K, (ps.take k).map fr) (K.file + 1) 0 else none) = _
          rw [if_pos (by omega), show K.file + 1 = p.f from by omega, show (0 : Int) = p.a from by omega, hfound]
          rfl
    obtain ⟨la, r1, r2⟩ := ih (k + 1) ⟨p.f, p.a + p.q, p.n + 1, fun j => if j = p.f then some p.n else K.lasts j⟩ (by omega) (by
      rw [htk]
      refine hL.snoc fun x hx => ?_
      obtain ⟨i, hi⟩ := List.getElem?_of_mem hx
      have hil := (List.getElem?_eq_some_iff.1 hi).1
      simp at hil
      rw [List.getElem?_take_of_lt (by omega)] at hi
      have := (chain_le h.link (k - i) i x p hi (by rw [show i + (k - i) = k from by omega]; exact hp)).1
      omega) (fun e => absurd e (by omega)) (fun z _ hz => by
      rw [show k + 1 - 1 = k from by omega, hp] at hz
      obtain rfl := Option.some.inj hz
      exact ⟨rfl, rfl, rfl⟩)
    exact ⟨la, .go hstep r1, r2⟩
/-- What Open finds. -/
theorem Inv.opened (h : Inv G M L ps) (hG : ∀ s, G s → Front s) (ho : M.off = false) {l : List Int} (hl : IsFiles M l) {S : Lg × List Fr} (hS : Runs M (startP l) S) : S.2 = ps.map fr ∧ Inv G M S.1 ps ∧ S.1.file = L.file ∧ S.1.at' = L.at' ∧ S.1.next = L.next := by
  have hm : ∀ f, f ∈ segsOf l ↔ M.has f = true ∧ 2 ≤ f := fun f => by unfold segsOf; rw [List.mem_filter, hl.mem f]; simp
  have hup : (segsOf l).Pairwise (· < ·) := hl.up.filter _
  have hst : (startP l).1.file = (segsOf l).headD 2 := rfl
  obtain ⟨la, r1, r2⟩ := h.runs hG ho ps.length 0 (startP l).1 (by omega) (by intro p hp; simp at hp) (fun _ => by
    refine ⟨rfl, rfl, fun hne => ?_, fun p hp => ?_⟩
    · rw [hst]
      cases hs : segsOf l with
      | nil => rfl
      | cons x K =>
        have hx := (hm x).1 (by rw [hs]; exact List.mem_cons_self)
        obtain ⟨e1, e2, e3⟩ := h.emp hne
        have := h.high x hx.1
        rw [e1, e2] at this
        simp at this
        show x = 2
        omega
    · rw [hst]
      have g := h.good p (List.mem_of_getElem? hp)
      have hc := cnt_pos p.d.length
      have hh := h.has p.f _ _ (g.s 0 (by omega))
      have hin := (hm p.f).2 ⟨hh, g.f2⟩
      cases hs : segsOf l with
      | nil => rw [hs] at hin; cases hin
      | cons x K =>
        have hx := (hm x).1 (by rw [hs]; exact List.mem_cons_self)
        have k1 := h.low x hx.2 hx.1 p hp
        rw [hs] at hin hup
        show x = p.f
        rcases List.mem_cons.1 hin with k2 | k2
        · exact k2.symm
        · have := List.rel_of_pairwise_cons hup k2
          omega) (fun _ k => absurd k (by omega))
  have e := hS.same r1
  subst e
  refine ⟨rfl, ?_, rfl, rfl, rfl⟩
  exact { good := h.good, link := h.link, fst := h.fst, lst := h.lst, emp := h.emp, hole := h.hole, hole1 := h.hole1, low := h.low, high := h.high, has := h.has, lasts := r2, bd := h.bd, filed := h.filed, ranged := h.ranged }
end
end Go.Proofs.Ytdjcaogffppdhaa.Log
namespace Go.Proofs.Ytdjcaogffppdhaa.Log
open Go.RowKit Go.Proofs.Ytdjcaogffppdhaa.SumPure Go.Proofs.Ytdjcaogffppdhaa.Sect
open Go.Proofs.Ytdjcaogffppdhaa.Med (IsMed Med Ranged IsSize IsFiles Filed)
open Go.Proofs.Ytdjcaogffppdhaa.FramesPure
theorem Inv.new (G : ByteArray → Prop) : Inv G Med.Med.new ⟨2, 0, 1, fun _ => none⟩ [] where
  good := by intro p hp; cases hp
  link := by intro i p p' hp; simp at hp
  fst := by intro p hp; simp at hp
  lst := by intro p hp; simp at hp
  emp := fun _ => ⟨rfl, rfl, rfl⟩
  hole := fun i s _ h => by cases h
  hole1 := fun f _ i s _ h => by cases h
  low := fun f _ h => by cases h
  high := fun f h => by cases h
  has := fun f i s h => by cases h
  lasts := by intro p hp; cases hp
  bd := by decide
  filed := Med.Filed.new
  ranged := Med.Ranged.new
section
variable {G : ByteArray → Prop} {M : Med} {L : Lg} {ps : List Pc}
theorem Inv.med (h : Inv G M L ps) {M' : Med} (hS : M'.S = M.S) (hh : M'.has = M.has) : Inv G M' L ps where
  good := fun p hp => (h.good p hp).keep fun i _ _ => by rw [hS]
  link := fun i p p' hp hp' => by
    obtain ⟨k1, k2⟩ := h.link i p p' hp hp'
    exact ⟨k1, k2.imp id fun ⟨x1, x2, x3⟩ => ⟨x1, x2, x3.keep fun i _ => by rw [hS]⟩⟩
  fst := h.fst
  lst := h.lst
  emp := h.emp
  hole := h.hole.keep fun i _ => by rw [hS]
  hole1 := fun f hf => (h.hole1 f hf).keep fun i _ => by rw [hS]
  low := fun f f2 hf => h.low f f2 (by rw [← hh]; exact hf)
  high := fun f hf => h.high f (by rw [← hh]; exact hf)
  has := fun f i s hs => by rw [hh]; exact h.has f i s (by rw [← hS]; exact hs)
  lasts := h.lasts
  bd := h.bd
  filed := fun f hf => h.filed f (by rw [← hh]; exact hf)
  ranged := fun f i s hs => h.ranged f i s (by rw [← hS]; exact hs)
theorem Inv.arm (h : Inv G M L ps) (x : Int) : Inv G (M.arm x) L ps := h.med rfl rfl
theorem Inv.on (h : Inv G M L ps) : Inv G M.on L ps := h.med rfl rfl
theorem split_at (f : Int) : ∀ ps : List Pc, ∃ A B, ps = A ++ B ∧ (∀ p ∈ A, p.f = f) ∧ ∀ b, B[0]? = some b → b.f ≠ f := by
  intro ps
  induction ps with
  | nil => exact ⟨[], [], rfl, by simp, by simp⟩
  | cons p ps ih =>
    by_cases e : p.f = f
    · obtain ⟨A, B, h1, h2, h3⟩ := ih
      exact ⟨p :: A, B, by rw [h1]; rfl, fun x hx => by rcases List.mem_cons.1 hx with rfl | hx; exact e; exact h2 x hx, h3⟩
    · exact ⟨[], p :: ps, rfl, by simp, fun b hb => by simp at hb; rw [← hb]; exact e⟩
/-- The lowest file is taken away. -/
theorem Inv.dropped (h : Inv G M L ps) {p0 : Pc} (hp0 : ps[0]? = some p0) (hlt : p0.f < L.file) {M' : Med} (hS : ∀ f i, M'.S f i = if f = p0.f then none else M.S f i) (hh : ∀ f, M'.has f = if f = p0.f then false else M.has f) :
    ∃ A B, ps = A ++ B ∧ B ≠ [] ∧ (∀ p ∈ A, p.f = p0.f) ∧ Inv G M' L B := by
  obtain ⟨A, B, rfl, hA, hB⟩ := split_at p0.f ps
  have hBne : B ≠ [] := by
    rintro rfl
    rw [List.append_nil] at h hp0
    obtain ⟨z, hz, hm⟩ := h.last (by rintro rfl; simp at hp0)
    have := (h.lst z hz).1
    have := hA z hm
    omega
  have hAne : A ≠ [] := by
    rintro rfl
    exact hB p0 (by simpa using hp0) rfl
  have hBl : 0 < B.length := List.length_pos_iff.2 hBne
  have hAl : 0 < A.length := List.length_pos_iff.2 hAne
  have ix : ∀ i, (A ++ B)[A.length + i]? = B[i]? := fun i => by rw [List.getElem?_append_right (by omega)]; congr 1; omega
  have hb : B[0]? = some B[0] := List.getElem?_eq_getElem hBl
  generalize B[0] = b at hb
  have hz : (A ++ B)[A.length - 1]? = some A[A.length - 1] := by rw [List.getElem?_append_left (by omega)]; exact List.getElem?_eq_getElem (by omega)
  have hzf := hA A[A.length - 1] (List.getElem_mem _)
  generalize A[A.length - 1] = z at hz hzf
  obtain ⟨_, lk⟩ := h.link (A.length - 1) z b hz (by rw [show A.length - 1 + 1 = A.length + 0 from by omega, ix]; exact hb)
  have hbf : b.f = p0.f + 1 ∧ b.a = 0 := by
    rcases lk with ⟨x1, _⟩ | ⟨x1, x2, _⟩
    · exact absurd (x1.trans hzf) (hB b hb)
    · exact ⟨by omega, x2⟩
  have hBf : ∀ p ∈ B, p0.f < p.f := by
    intro p hp
    obtain ⟨i, hi⟩ := List.getElem?_of_mem hp
    obtain ⟨_, k⟩ := chain_le h.link i (A.length + 0) b p (by rw [ix]; exact hb) (by rw [show A.length + 0 + i = A.length + i from by omega, ix]; exact hi)
    omega
  have keep : ∀ f i, f ≠ p0.f → M'.S f i = M.S f i := fun f i hf => by rw [hS, if_neg hf]
  have hhas : ∀ f, M'.has f = true → f ≠ p0.f ∧ M.has f = true := by
    intro f hf
    rw [hh] at hf
    split at hf
    · cases hf
    · rename_i hne; exact ⟨hne, hf⟩
  have hsome : ∀ f i s, M'.S f i = some s → f ≠ p0.f ∧ M.S f i = some s := by
    intro f i s hs
    rw [hS] at hs
    split at hs
    · cases hs
    · rename_i hne; exact ⟨hne, hs⟩
  refine ⟨A, B, rfl, hBne, hA, ?_⟩
  exact {
    good := fun p hp => (h.good p (List.mem_append_right A hp)).keep fun i _ _ => keep _ _ (by have := hBf p hp; omega)
    link := fun i p p' hp hp' => by
      obtain ⟨k1, k2⟩ := h.link (A.length + i) p p' (by rw [ix]; exact hp) (by rw [show A.length + i + 1 = A.length + (i + 1) from by omega, ix]; exact hp')
      exact ⟨k1, k2.imp id fun ⟨x1, x2, x3⟩ => ⟨x1, x2, x3.keep fun j _ => keep _ _ (by have := hBf p (List.mem_of_getElem? hp); omega)⟩⟩
    fst := fun p hp => by rw [hb] at hp; obtain rfl := Option.some.inj hp; exact hbf.2
    lst := fun p hp => h.lst p (by rw [List.length_append, show A.length + B.length - 1 = A.length + (B.length - 1) from by omega, ix]; exact hp)
    emp := fun e => absurd e hBne
    hole := h.hole.keep fun i _ => keep _ _ (by omega)
    hole1 := fun f hf => (h.hole1 f hf).keep fun i _ => keep _ _ (by omega)
    low := fun f f2 hf p hp => by
      rw [hb] at hp; obtain rfl := Option.some.inj hp
      obtain ⟨k1, k2⟩ := hhas f hf
      have := h.low f f2 k2 p0 hp0
      omega
    high := fun f hf => h.high f (hhas f hf).2
    has := fun f i s hs => by
      obtain ⟨k1, k2⟩ := hsome f i s hs
      rw [hh, if_neg k1]; exact h.has f i s k2
    lasts := fun p hp => by
      obtain ⟨p', m, e1, e2, e3⟩ := h.lasts p (List.mem_append_right A hp)
      refine ⟨p', ?_, e1, e2, fun p'' hp'' => e3 p'' (List.mem_append_right A hp'')⟩
      rcases List.mem_append.1 m with m | m
      · have := hA p' m
        have := hBf p hp
        omega
      · exact m
    bd := h.bd
    filed := fun f hf => h.filed f (hhas f hf).2
    ranged := fun f i s hs => h.ranged f i s (hsome f i s hs).2 }
theorem Inv.later (h : Inv G M L ps) {p p' : Pc} (hp : p ∈ ps) (hp' : p' ∈ ps) (hf : p.f < p'.f) : p.n < p'.n := by
  obtain ⟨i, hi⟩ := List.getElem?_of_mem hp
  obtain ⟨j, hj⟩ := List.getElem?_of_mem hp'
  by_cases k : i ≤ j
  · have := chain_le h.link (j - i) i p p' hi (by rw [show i + (j - i) = j from by omega]; exact hj)
    by_cases e : i = j
    · subst e; rw [hi] at hj; obtain rfl := Option.some.inj hj; omega
    · omega
  · have := chain_le h.link (i - j) j p' p hj (by rw [show j + (i - j) = i from by omega]; exact hi)
    omega
/-- What a Trim leaves. -/
theorem Inv.trimmed (x : Int) : ∀ (K : List Int) (M : Med) (ps : List Pc), Inv G M L ps → M.off = false → K.Pairwise (· < ·) → (∀ f, f ∈ K ↔ M.has f = true ∧ 2 ≤ f) →
    ∃ A B, ps = A ++ B ∧ (B = [] → ps = []) ∧ (∀ p ∈ A, p.n ≤ x) ∧ Inv G (trimL L x K M).1 L B ∧
      (((trimL L x K M).2 = 0 ∧ (trimL L x K M).1.off = false ∧ (M.left < 0 → (trimL L x K M).1.left < 0) ∧ ∀ p0, B[0]? = some p0 → p0.f < L.file → ∃ p' ∈ B, p'.f = p0.f ∧ x < p'.n) ∨ ((trimL L x K M).2 = 40 ∧ ¬M.left < 0)) := by
  intro K
  induction K with
  | nil =>
    intro M ps h ho _ hm
    refine ⟨[], ps, rfl, id, by simp, h, .inl ⟨rfl, ho, id, fun p hp _ => ?_⟩⟩
    have g := h.good p (List.mem_of_getElem? hp)
    have hc := cnt_pos p.d.length
    have := (hm p.f).2 ⟨h.has _ _ _ (g.s 0 (by omega)), g.f2⟩
    cases this
  | cons f K ih =>
    intro M ps h ho hup hm
    obtain ⟨hf1, hf2⟩ := (hm f).1 List.mem_cons_self
    have hmin : ∀ g, g ∈ f :: K → f ≤ g := fun g hg => by
      rcases List.mem_cons.1 hg with rfl | hg
      · exact Int.le_refl _
      · have := List.rel_of_pairwise_cons hup hg; omega
    have h0f : ∀ p0, ps[0]? = some p0 → p0.f = f := by
      intro p0 hp0
      have g := h.good p0 (List.mem_of_getElem? hp0)
      have hc := cnt_pos p0.d.length
      have k1 := hmin _ ((hm p0.f).2 ⟨h.has _ _ _ (g.s 0 (by omega)), g.f2⟩)
      have k2 := h.low f hf2 hf1 p0 hp0
      omega
    show ∃ A B, ps = A ++ B ∧ (B = [] → ps = []) ∧ (∀ p ∈ A, p.n ≤ x) ∧ Inv G (if stops L x f = true then (M, 0) else if (M.remove f).2 = 0 then trimL L x K (M.remove f).1 else M.remove f).1 L B ∧
      (((if stops L x f = true then (M, 0) else if (M.remove f).2 = 0 then trimL L x K (M.remove f).1 else M.remove f).2 = 0 ∧ (if stops L x f = true then (M, 0) else if (M.remove f).2 = 0 then trimL L x K (M.remove f).1 else M.remove f).1.off = false ∧ (M.left < 0 → (if stops L x f = true then (M, 0) else if (M.remove f).2 = 0 then trimL L x K (M.remove f).1 else M.remove f).1.left < 0) ∧ ∀ p0, B[0]? = some p0 → p0.f < L.file → ∃ p' ∈ B, p'.f = p0.f ∧ x < p'.n) ∨ ((if stops L x f = true then (M, 0) else if (M.remove f).2 = 0 then trimL L x K (M.remove f).1 else M.remove f).2 = 40 ∧ ¬M.left < 0))
    by_cases hst : stops L x f = true
    · simp only [if_pos hst]
      refine ⟨[], ps, rfl, id, by simp, h, .inl ⟨trivial, ho, id, fun p0 hp0 hlt => ?_⟩⟩
      have e := h0f p0 hp0
      have hm0 := List.mem_of_getElem? hp0
      unfold stops at hst
      rcases Bool.or_eq_true_iff.1 hst with k | k
      · have k := of_decide_eq_true k
        omega
      · have k := Bool.and_eq_true_iff.1 k
        obtain ⟨p', m, e1, e2, e3⟩ := h.lasts p0 hm0
        rw [e] at e2
        rw [e2] at k
        have k2 : p'.n > x := of_decide_eq_true k.2
        exact ⟨p', m, e1, k2⟩
    · simp only [if_neg hst]
      have hst' := Bool.eq_false_iff.2 hst
      unfold stops at hst'
      obtain ⟨s1, s2⟩ := Bool.or_eq_false_iff.1 hst'
      have s1 : ¬f ≥ L.file := of_decide_eq_false s1
      have hne : ps ≠ [] := by
        intro e
        have := (h.emp e).1
        omega
      obtain ⟨p0, hp0⟩ : ∃ p0, ps[0]? = some p0 := ⟨_, List.getElem?_eq_getElem (List.length_pos_iff.2 hne)⟩
      have e := h0f p0 hp0
      have hfr := h.filed f hf1
      have hr : M.ready f 0 64 = 0 := by unfold Med.Med.ready; rw [ho]; simp only [Bool.false_eq_true, if_false]; rw [if_neg (by omega)]
      have hrm : M.remove f = if M.spend.2 = 0 then (M.spend.1.drop f, 0) else M.spend := by unfold Med.Med.remove; rw [if_pos hr]
      by_cases hz : M.left = 0
      · have e1 : M.spend = ({ M with off := true }, 40) := by unfold Med.Med.spend; rw [if_pos hz]
        have e2 : M.remove f = ({ M with off := true }, 40) := by rw [hrm, e1]; rfl
        rw [e2]
        exact ⟨[], ps, rfl, id, by simp, h.med rfl rfl, .inr ⟨rfl, by omega⟩⟩
      · have e1 : M.spend = ({ M with left := if M.left > 0 then M.left - 1 else -1, writes := M.writes + 1 }, 0) := by unfold Med.Med.spend; rw [if_neg hz]
        obtain ⟨M1, hM1⟩ : ∃ M1, M1 = M.spend.1.drop f := ⟨_, rfl⟩
        have e2 : M.remove f = (M1, 0) := by rw [hrm, e1, hM1, e1]; rfl
        rw [e2]
        show ∃ A B, ps = A ++ B ∧ (B = [] → ps = []) ∧ (∀ p ∈ A, p.n ≤ x) ∧ Inv G (trimL L x K M1).1 L B ∧ (((trimL L x K M1).2 = 0 ∧ (trimL L x K M1).1.off = false ∧ (M.left < 0 → (trimL L x K M1).1.left < 0) ∧ ∀ p0, B[0]? = some p0 → p0.f < L.file → ∃ p' ∈ B, p'.f = p0.f ∧ x < p'.n) ∨ ((trimL L x K M1).2 = 40 ∧ ¬M.left < 0))
        have hS1 : ∀ g i, M1.S g i = if g = p0.f then none else M.S g i := fun g i => by rw [hM1, e1, e]; rfl
        have hh1 : ∀ g, M1.has g = if g = p0.f then false else M.has g := fun g => by rw [hM1, e1, e]; rfl
        have ho1 : M1.off = false := by rw [hM1, e1]; exact ho
        have hl1 : M.left < 0 → M1.left < 0 := by intro k; rw [hM1, e1]; show (if M.left > 0 then M.left - 1 else -1) < 0; rw [if_neg (by omega)]; omega
        obtain ⟨A, B, hAB, hB, hA, hI⟩ := h.dropped hp0 (by omega) hS1 hh1
        obtain ⟨A2, B2, h1, h2, h3, h4, h5⟩ := ih M1 B hI ho1 (List.Pairwise.of_cons hup) (fun g => by
          rw [hh1]
          constructor
          · intro hg
            have := List.rel_of_pairwise_cons hup hg
            have k := (hm g).1 (List.mem_cons_of_mem _ hg)
            rw [if_neg (by omega)]
            exact k
          · rintro ⟨k1, k2⟩
            split at k1
            · cases k1
            · rename_i hg
              rcases List.mem_cons.1 ((hm g).2 ⟨k1, k2⟩) with k | k
              · omega
              · exact k)
        refine ⟨A ++ A2, B2, by rw [hAB, h1, List.append_assoc], fun e => absurd (h2 e) hB, fun p hp => ?_, h4, ?_⟩
        · rcases List.mem_append.1 hp with hp | hp
          · obtain ⟨p', m, q1, q2, q3⟩ := h.lasts p0 (List.mem_of_getElem? hp0)
            have q4 := q3 p (by rw [hAB]; exact List.mem_append_left _ hp) (hA p hp)
            rw [e] at q2
            rw [q2] at s2
            have s3 : ¬p'.n > x := by
              intro k
              have : decide (p'.n > x) = true := decide_eq_true k
              simp [this] at s2
            omega
          · exact h3 p hp
        · rcases h5 with ⟨o1, o2, o3, o4⟩ | ⟨o1, o2⟩
          · exact .inl ⟨o1, o2, fun k => o3 (hl1 k), o4⟩
          · exact .inr ⟨o1, fun k => o2 (hl1 k)⟩
end
end Go.Proofs.Ytdjcaogffppdhaa.Log
namespace Go.Proofs.Ytdjcaogffppdhaa.Log
open Go.RowKit Go.Proofs.Ytdjcaogffppdhaa.SumPure Go.Proofs.Ytdjcaogffppdhaa.Sect
open Go.Proofs.Ytdjcaogffppdhaa.Med (IsMed Med Ranged IsSize IsFiles Filed)
open Go.Proofs.Ytdjcaogffppdhaa.FramesPure
def tot : List Pc → Int → Int
  | [], _ => 0
  | p :: l, f => (if p.f = f then p.q else 0) + tot l f
def sumQ : List Pc → Int
  | [] => 0
  | p :: l => p.q + sumQ l
def needP (x : Int) : List Pc → Int
  | [] => 0
  | p :: l => (if x < p.n then p.q + 7 else 0) + needP x l
theorem tot_append (f : Int) (a b : List Pc) : tot (a ++ b) f = tot a f + tot b f := by
  induction a with
  | nil => simp [tot]
  | cons p l ih => simp only [List.cons_append, tot, ih]; omega
theorem tot_zero (f : Int) (l : List Pc) (h : ∀ p ∈ l, p.f ≠ f) : tot l f = 0 := by
  induction l with
  | nil => rfl
  | cons p l ih => rw [tot, if_neg (h p List.mem_cons_self), ih fun x hx => h x (List.mem_cons_of_mem _ hx)]; rfl
theorem needP_append (x : Int) (a b : List Pc) : needP x (a ++ b) = needP x a + needP x b := by
  induction a with
  | nil => simp [needP]
  | cons p l ih => simp only [List.cons_append, needP, ih]; omega
theorem needP_nonneg (x : Int) (a : List Pc) : 0 ≤ needP x a := by
  induction a with
  | nil => exact Int.le_refl _
  | cons p l ih => have := p.q_pos; rw [needP]; split <;> omega
theorem sumQ_append (a b : List Pc) : sumQ (a ++ b) = sumQ a + sumQ b := by
  induction a with
  | nil => simp [sumQ]
  | cons p l ih => simp only [List.cons_append, sumQ, ih]; omega
theorem fold_shift (F : Int) (sz : Int → Int) (K : List Int) : ∀ z : Int, K.foldl (fun a f => if f < F then a + sz f else a) z = z + K.foldl (fun a f => if f < F then a + sz f else a) 0 := by
  induction K with
  | nil => intro z; simp
  | cons f K ih =>
    intro z
    simp only [List.foldl_cons]
    rw [ih (if f < F then z + sz f else z), ih (if f < F then 0 + sz f else 0)]
    split <;> omega
theorem sumS_cons (F : Int) (sz : Int → Int) (f : Int) (K : List Int) : sumS F sz (f :: K) = (if f < F then sz f else 0) + sumS F sz K := by
  unfold sumS
  rw [List.foldl_cons, fold_shift]
  split <;> omega
theorem sumS_zero (F : Int) (K : List Int) : sumS F (fun _ => 0) K = 0 := by
  induction K with
  | nil => rfl
  | cons f K ih => rw [sumS_cons, ih]; split <;> rfl
theorem sumS_add (F : Int) (a b : Int → Int) (K : List Int) : sumS F (fun f => a f + b f) K = sumS F a K + sumS F b K := by
  induction K with
  | nil => rfl
  | cons f K ih => rw [sumS_cons, sumS_cons, sumS_cons, ih]; split <;> omega
theorem sumS_none (F g q : Int) (K : List Int) (h : g ∉ K) : sumS F (fun f => if g = f then q else 0) K = 0 := by
  induction K with
  | nil => rfl
  | cons f K ih =>
    rw [sumS_cons, ih fun k => h (List.mem_cons_of_mem _ k), if_neg (fun e : g = f => h (by rw [e]; exact List.mem_cons_self))]
    split <;> rfl
theorem sumS_one (F g q : Int) (K : List Int) (hu : K.Pairwise (· < ·)) (h : g ∈ K) : sumS F (fun f => if g = f then q else 0) K = if g < F then q else 0 := by
  induction K with
  | nil => cases h
  | cons f K ih =>
    rw [sumS_cons]
    by_cases e : g = f
    · subst e
      rw [sumS_none F g q K (fun k => by have := List.rel_of_pairwise_cons hu k; omega), if_pos rfl]
      omega
    · rw [ih (List.Pairwise.of_cons hu) ((List.mem_cons.1 h).resolve_left e), if_neg e]
      split <;> omega
theorem sum_tot (F : Int) (K : List Int) (hu : K.Pairwise (· < ·)) : ∀ ps : List Pc, (∀ p ∈ ps, p.f ∈ K ∧ p.f ≤ F) → sumS F (tot ps) K = sumQ ps - tot ps F := by
  intro ps
  induction ps with
  | nil => intro _; show sumS F (fun _ => 0) K = _; rw [sumS_zero]; rfl
  | cons p l ih =>
    intro h
    have e : tot (p :: l) = fun f => (fun f => if p.f = f then p.q else 0) f + tot l f := rfl
    obtain ⟨h1, h2⟩ := h p List.mem_cons_self
    rw [e, sumS_add, ih fun x hx => h x (List.mem_cons_of_mem _ hx), sumS_one F p.f p.q K hu h1]
    simp only [sumQ]
    by_cases k : p.f = F
    · rw [if_neg (by omega), if_pos k]; omega
    · rw [if_pos (by omega), if_neg k]; omega
abbrev NoG : ByteArray → Prop := fun _ => False
section
variable {M : Med} {L : Lg} {ps : List Pc}
theorem Inv.end_at {G : ByteArray → Prop} (h : Inv G M L ps) : ∀ (i : Nat) (p : Pc), ps[i]? = some p → p.a + p.q = tot (ps.take (i + 1)) p.f := by
  intro i
  induction i with
  | zero =>
    intro p hp
    rw [List.take_add_one, hp, List.take_zero, h.fst p hp]
    show 0 + p.q = (if p.f = p.f then p.q else 0) + 0
    rw [if_pos rfl]; omega
  | succ i ih =>
    intro p hp
    have hl := (List.getElem?_eq_some_iff.1 hp).1
    have hz : ps[i]? = some ps[i] := List.getElem?_eq_getElem (by omega)
    generalize ps[i] = z at hz
    have k := ih z hz
    rw [List.take_add_one, hp, tot_append]
    have e1 : tot (some p).toList p.f = p.q := by show (if p.f = p.f then p.q else 0) + 0 = _; rw [if_pos rfl]; omega
    rw [e1]
    obtain ⟨_, lk⟩ := h.link i z p hz hp
    rcases lk with ⟨x1, x2⟩ | ⟨x1, x2, _⟩
    · rw [x1, ← k]; omega
    · rw [tot_zero _ _ fun y hy => ?_, x2]
      obtain ⟨j, hj⟩ := List.getElem?_of_mem hy
      have hjl := (List.getElem?_eq_some_iff.1 hj).1
      simp at hjl
      rw [List.getElem?_take_of_lt (by omega)] at hj
      have := (chain_le h.link (i - j) j y z hj (by rw [show j + (i - j) = i from by omega]; exact hz)).2
      omega
theorem Inv.at_tot {G : ByteArray → Prop} (h : Inv G M L ps) : L.at' = tot ps L.file := by
  by_cases hne : ps = []
  · rw [(h.emp hne).2.1, hne]; rfl
  · obtain ⟨z, hz, _⟩ := h.last hne
    obtain ⟨e1, e2, e3⟩ := h.lst z hz
    have hpos : 0 < ps.length := List.length_pos_iff.2 hne
    rw [e2, e1, h.end_at _ z hz, show ps.length - 1 + 1 = ps.length from by omega, List.take_length]
theorem cross {ps : List Pc} {f : Int} (h0 : ∀ p, ps[0]? = some p → p.f ≤ f) : ∀ (k : Nat) (p : Pc), ps[k]? = some p → f < p.f → ∃ i a b, ps[i]? = some a ∧ ps[i + 1]? = some b ∧ a.f ≤ f ∧ f < b.f := by
  intro k
  induction k with
  | zero => intro p hp hf; have := h0 p hp; omega
  | succ k ih =>
    intro p hp hf
    have hl := (List.getElem?_eq_some_iff.1 hp).1
    have hz : ps[k]? = some ps[k] := List.getElem?_eq_getElem (by omega)
    by_cases e : f < ps[k].f
    · exact ih _ hz e
    · exact ⟨k, _, p, hz, hp, by omega, hf⟩
theorem Inv.size_at (h : Inv NoG M L ps) {f : Int} (hne : ps ≠ []) (h0 : ∀ p, ps[0]? = some p → p.f ≤ f) (hf : f < L.file) : IsSize M f (tot ps f) ∧ tot ps f ≤ 16 := by
  obtain ⟨z, hz, _⟩ := h.last hne
  have hzf := (h.lst z hz).1
  obtain ⟨i, a, b, ha, hb, f1, f2⟩ := cross h0 _ z hz (by omega)
  obtain ⟨_, lk⟩ := h.link i a b ha hb
  obtain ⟨x1, x2, x3⟩ : b.f = a.f + 1 ∧ b.a = 0 ∧ Hole NoG M a.f (a.a + a.q) := by
    rcases lk with ⟨x1, _⟩ | k
    · omega
    · exact k
  have haf : a.f = f := by omega
  have e : tot ps f = a.a + a.q := by
    rw [h.end_at i a ha, haf]
    conv => lhs; rw [← List.take_append_drop (i + 1) ps]
    rw [tot_append, tot_zero f (ps.drop (i + 1)) fun y hy => ?_, Int.add_zero]
    obtain ⟨j, hj⟩ := List.getElem?_of_mem hy
    rw [List.getElem?_drop] at hj
    have := (chain_le h.link j (i + 1) b y hb hj).2
    omega
  have g := h.good a (List.mem_of_getElem? ha)
  have h1 := g.a1
  have h2 := g.a0
  have h3 := a.q_pos
  refine ⟨⟨by omega, by omega, fun x s hs => ?_, .inr ?_⟩, by omega⟩
  · by_cases k : a.a + a.q ≤ x
    · rw [← haf] at hs
      exact (x3 x s k hs).elim
    · omega
  · have hc := cnt_pos a.d.length
    refine ⟨secAt a.n a.d (cnt a.d.length) (cnt a.d.length - 1), ?_⟩
    rw [e, ← haf, show a.a + a.q - 1 = a.a + ((cnt a.d.length - 1 : Nat) : Int) from by unfold Pc.q; omega]
    exact g.s _ (by omega)
theorem Inv.sectors (h : Inv NoG M L ps) {l : List Int} (hl : IsFiles M l) : (∀ f ∈ segsOf l, f < L.file → IsSize M f (tot ps f)) ∧ L.at' + sumS L.file (tot ps) (segsOf l) = sumQ ps := by
  have hm : ∀ f, f ∈ segsOf l ↔ M.has f = true ∧ 2 ≤ f := fun f => by unfold segsOf; rw [List.mem_filter, hl.mem f]; simp
  have hup : (segsOf l).Pairwise (· < ·) := hl.up.filter _
  refine ⟨fun f hf hlt => ?_, ?_⟩
  · obtain ⟨f1, f2⟩ := (hm f).1 hf
    have hne : ps ≠ [] := by
      intro e
      have := (h.emp e).1
      omega
    exact (h.size_at hne (fun p hp => h.low f f2 f1 p hp) hlt).1
  · rw [sum_tot L.file _ hup ps (fun p hp => by
      have g := h.good p hp
      have hc := cnt_pos p.d.length
      have := (h.below' hp).2
      exact ⟨(hm p.f).2 ⟨h.has _ _ _ (g.s 0 (by omega)), g.f2⟩, by omega⟩), h.at_tot]
    omega
theorem sum_le (f0 F x : Int) : ∀ ps : List Pc, (∀ p ∈ ps, p.f = f0 ∨ x < p.n) → sumQ ps ≤ tot ps f0 + needP x ps := by
  intro ps
  induction ps with
  | nil => intro _; exact Int.le_refl _
  | cons p l ih =>
    intro h
    have k := ih fun y hy => h y (List.mem_cons_of_mem _ hy)
    have hq := p.q_pos
    simp only [sumQ, tot, needP]
    rcases h p List.mem_cons_self with e | e
    · rw [if_pos e]; split <;> omega
    · rw [if_pos e]; split <;> omega
theorem Inv.few (h : Inv NoG M L ps) {x : Int} (hx' : ∀ p0, ps[0]? = some p0 → p0.f < L.file → ∃ p' ∈ ps, p'.f = p0.f ∧ x < p'.n) : sumQ ps ≤ 32 + needP x ps := by
  have hx : ∀ p0 p, ps[0]? = some p0 → p ∈ ps → p0.f < p.f → x < p.n := fun p0 p hp0 hp hlt => by
    have := (h.below' hp).2
    obtain ⟨p', m, e1, e2⟩ := hx' p0 hp0 (by omega)
    have := h.later m hp (by omega)
    omega
  by_cases hne : ps = []
  · rw [hne]; show (0 : Int) ≤ 32 + 0; decide
  · obtain ⟨p0, hp0⟩ : ∃ p0, ps[0]? = some p0 := ⟨_, List.getElem?_eq_getElem (List.length_pos_iff.2 hne)⟩
    have k := sum_le p0.f 0 x ps fun p hp => by
      by_cases e : p.f = p0.f
      · exact .inl e
      · right
        obtain ⟨j, hj⟩ := List.getElem?_of_mem hp
        have := (chain_le h.link j 0 p0 p hp0 (by rw [Nat.zero_add]; exact hj)).2
        exact hx p0 p hp0 hp (by omega)
    have k2 : tot ps p0.f ≤ 16 := by
      have := (h.below hp0).2
      by_cases e : p0.f < L.file
      · exact (h.size_at hne (fun p hp => by rw [hp0] at hp; obtain rfl := Option.some.inj hp; exact Int.le_refl _) e).2
      · rw [show p0.f = L.file from by omega, ← h.at_tot]; exact h.at_bd.2.2.1
    omega
end
end Go.Proofs.Ytdjcaogffppdhaa.Log
