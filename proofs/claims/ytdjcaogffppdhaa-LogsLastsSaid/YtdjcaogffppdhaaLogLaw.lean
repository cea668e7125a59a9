/- Of one claim's parts: LogZ, LogY, LogAw. -/
import Derived.Test.YtdjcaogffppdhaaLogPure
import Derived.Test.YtdjcaogffppdhaaLogW
import Derived.Test.YtdjcaogffppdhaaBase61
set_option linter.unusedVariables false
set_option linter.unusedSimpArgs false
namespace Go.Proofs.Ytdjcaogffppdhaa.LogZ
open Go.RowKit Go.Proofs.Ytdjcaogffppdhaa.SumPure Go.Proofs.Ytdjcaogffppdhaa.Arr Go.Proofs.YtdjcaogffppdhaaW.PrintWords Go.Proofs.YtdjcaogffppdhaaW.PrintLast Go.Proofs.YtdjcaogffppdhaaW.PrintMore
def zeroL (n : Nat) : List UInt8 := List.replicate n 0
theorem zeros_any (n : Nat) (h : n ≤ 1000) (w : World) : Calls Try.prog 33 #[.int .i64 n] w fun e w' => e = .returned (.string ⟨(zeroL n).toArray⟩) ∧ Below w.heap.size w w' := by
  refine stevedorelaw05_zeros.calls n _ w ?_
  unfold stevedorelaw05_zeros.f
  rw [if_pos (by omega), if_pos (by omega), Int.toNat_natCast]
  congr 1
  rw [← str_ints]
  congr 1
  simp [ints, zeroL]
def fillAt (b : Int) (i : Nat) : UInt8 := b8 (b + (i : Int) / 50)
def fillL (n b : Int) : List UInt8 := (List.range (min n.toNat 500)).map (fillAt b)
theorem b8_wrap (x : Int) : (wrap64 x) % 256 = ((b8 x).toNat : Int) := by rw [b8_int]; unfold wrap64; omega
theorem wrap_idem (x y : Int) (h0 : 0 ≤ y) (h1 : y ≤ 100000) : wrap64 (x + wrap64 y) = wrap64 (x + y) := by rw [wrap_id (x := y) (by omega) (by omega)]
theorem fill_l0 (b : Int) (n : Nat) (hn : n ≤ 500) (d : Nat) : ∀ (k i : Nat), i ≤ n → n - i = d → d < k →
    stevedorelaw05_fill.l0 k b (ints ((List.range i).map (fillAt b)) ++ List.replicate (n - i) 0) i = some ⟨((List.range n).map (fillAt b)).toArray⟩ := by
  induction d with
  | zero =>
    intro k i hi hd hk
    obtain ⟨k, rfl⟩ : ∃ m, k = m + 1 := ⟨k - 1, by omega⟩
    obtain rfl : i = n := by omega
    simp only [stevedorelaw05_fill.l0]
    rw [if_neg (by simp [ints]), Nat.sub_self, List.replicate_zero, List.append_nil, str_ints]
  | succ d ih =>
    intro k i hi hd hk
    obtain ⟨k, rfl⟩ : ∃ m, k = m + 1 := ⟨k - 1, by omega⟩
    simp only [stevedorelaw05_fill.l0]
    rw [if_pos (by simp [ints]; omega), if_pos (by omega), wrap_id (x := (i : Int) + 1) (by omega) (by omega), Int.tdiv_eq_ediv_of_nonneg (by omega), wrap_idem _ _ (by omega) (by omega), b8_wrap]
    have e : (ints ((List.range i).map (fillAt b)) ++ List.replicate (n - i) 0).set ((i : Int)).toNat (((b8 (b + (i : Int) / 50)).toNat : Int)) = ints ((List.range (i + 1)).map (fillAt b)) ++ List.replicate (n - (i + 1)) 0 := by
      rw [show ((i : Int)).toNat = i from by omega, List.set_append_right _ _ (by simp [ints]), show n - i = (n - (i + 1)) + 1 from by omega, List.replicate_succ]
      simp [ints, List.range_succ, fillAt]
    rw [e, show ((i : Int) + 1) = ((i + 1 : Nat) : Int) from by omega]
    exact ih k (i + 1) (by omega) (by omega) (by omega)
theorem fillL_len (n b : Int) : (fillL n b).length = min n.toNat 500 := by simp [fillL]
theorem fill_any (n b : Int) (w : World) : Calls Try.prog 38 #[.int .i64 n, .int .i64 b] w fun e w' => e = .returned (.string ⟨(fillL n b).toArray⟩) ∧ Below w.heap.size w w' := by
  refine stevedorelaw05_fill.calls 501 n b _ w ?_
  unfold stevedorelaw05_fill.f
  have h0 : mn (mx n 0) 500 = ((min n.toNat 500 : Nat) : Int) := by unfold mn mx; split <;> split <;> omega
  rw [h0, if_pos (by omega), if_pos (by omega)]
  have := fill_l0 b (min n.toNat 500) (by omega) (min n.toNat 500) 501 0 (by omega) (by omega) (by omega)
  simp only [List.range_zero, List.map_nil, Nat.sub_zero] at this
  exact this
end Go.Proofs.Ytdjcaogffppdhaa.LogZ
namespace Go.Proofs.Ytdjcaogffppdhaa.Log
open Go.RowKit Go.ChangeMaps Go.Proofs.Ytdjcaogffppdhaa.IMap Go.Proofs.Ytdjcaogffppdhaa.AtX Go.Proofs.Ytdjcaogffppdhaa.SumPure Go.Proofs.Ytdjcaogffppdhaa.Lst
open Go.Proofs.Ytdjcaogffppdhaa.Med (IsMed Med Ranged IsSize IsFiles Filed)
open Go.Proofs.Ytdjcaogffppdhaa.FramesPure
open Go.Proofs.YtdjcaogffppdhaaW.PrintWords Go.Proofs.YtdjcaogffppdhaaW.PrintLast Go.Proofs.YtdjcaogffppdhaaW.PrintMore
theorem files_ex {M : Med} (h : Filed M) : ∃ l, IsFiles M l := by
  refine ⟨((List.range 1048576).map (fun i : Nat => (i : Int))).filter fun f => M.has f, List.Pairwise.filter _ (List.pairwise_map.2 (List.pairwise_lt_range.imp fun h => by omega)), fun f => ?_⟩
  rw [List.mem_filter, List.mem_map]
  constructor
  · rintro ⟨_, k⟩; exact k
  · intro k
    obtain ⟨a, b⟩ := h f k
    exact ⟨⟨f.toNat, List.mem_range.2 (by omega), by omega⟩, k⟩
theorem row_cell {w : World} {B n size : Nat} {e : TypeId} {v : Value} {xs : List Value} (h : w.ownsRow B e size v n xs) (hn : 0 < n) : ∃ g cap, v = .slice (some ⟨g, 0, none⟩) n cap ∧ B ≤ g ∧ n ≤ cap ∧ g < w.heap.size ∧ ∀ (j : Nat) z, xs[j]? = some z → w.cell? ⟨g, j, none⟩ = some z := by
  rcases h.2 with ⟨_, h0⟩ | ⟨g, cap, cur, rfl, hb, hh, hc, hm, hs, ht⟩
  · omega
  · refine ⟨g, cap, rfl, hb, hc, (Array.getElem?_eq_some_iff.1 hh).1, fun j z hj => ?_⟩
    rw [← ht] at hj
    have hl := (List.getElem?_eq_some_iff.1 hj).1
    simp at hl
    rw [List.getElem?_take_of_lt (by omega)] at hj
    simp only [World.cell?, hh]
    simpa using hj
theorem LAt.other {w0 w : World} {X : Nat → Prop} {bm bl g n : Nat} {M : Med} {L : Lg} (h : LAt w0 X bm bl g M L n w) {M' : Med} {n' : Nat} {w' : World} (k : AtX w0 (fun i => X i ∨ i = bl ∨ i = g) bm M' n' w') (h1 : w'.heap[bl]? = w.heap[bl]?) (h2 : w'.heap[g]? = w.heap[g]?) (hn : n ≤ n') : LAt w0 X bm bl g M' L n' w' :=
  ⟨k, h1.trans h.hL, (h.hg.same h2).mono hn, h.lb, h.lg, h.xb, h.xg⟩
structure Now (G : ByteArray → Prop) (w0 : World) (X : Nat → Prop) (bm bl g : Nat) (M : Med) (L : Lg) (ps : List Pc) (n : Nat) (w : World) : Prop where
  at_ : LAt w0 X bm bl g M L n w
  inv : Inv G M L ps
  off : M.off = false
theorem Now.after {G : ByteArray → Prop} {w0 w : World} {X : Nat → Prop} {bm bl g n : Nat} {M : Med} {L : Lg} {ps : List Pc} (h : Now G w0 X bm bl g M L ps n w) {w' : World} (k : Below w.heap.size w w') : Now G w0 X bm bl g M L ps n w' := ⟨h.at_.after k, h.inv, h.off⟩
theorem Now.mono {G : ByteArray → Prop} {w0 w : World} {X : Nat → Prop} {bm bl g n : Nat} {M : Med} {L : Lg} {ps : List Pc} (h : Now G w0 X bm bl g M L ps n w) {n' : Nat} (k : n ≤ n') : Now G w0 X bm bl g M L ps n' w := ⟨h.at_.mono k, h.inv, h.off⟩
theorem Now.drew {G : ByteArray → Prop} {w0 w : World} {X : Nat → Prop} {bm bl g n : Nat} {M : Med} {L : Lg} {ps : List Pc} (h : Now G w0 X bm bl g M L ps n w) : Now G w0 X bm bl g M L ps n w.drew := ⟨h.at_.drew, h.inv, h.off⟩
theorem open_now {G : ByteArray → Prop} {w0 w : World} {X : Nat → Prop} {bm n : Nat} {M : Med} {L : Lg} {ps : List Pc} (h : AtX w0 X bm M n w) (hi : Inv G M L ps) (hG : ∀ s, G s → Front s) (ho : M.off = false) (hn : n ≤ 1000000000000) :
    Calls Try.prog 31 #[.pointer (some ⟨bm, 0, none⟩)] w fun e w' => ∃ bl g A c L', e = .returned (.tuple #[.pointer (some ⟨bl, 0, none⟩), .slice A ps.length c, .int .i64 0]) ∧
      Now G w0 (fun i => X i ∨ (Value.slice A ps.length c).ownBlock = some i) bm bl g M L' ps (n + 50000000) w' ∧ L'.file = L.file ∧ L'.at' = L.at' ∧ L'.next = L.next ∧ w'.ownsRow w.heap.size 57 2 (.slice A ps.length c) ps.length (fcells (ps.map fr)) ∧ Same X w w' := by
  obtain ⟨l, hl⟩ := files_ex hi.filed
  refine (open_calls h hi.filed ho hn hl).mono ?_
  rintro e w' ⟨bl, g, v, S, rfl, hr, ha, hrow, hs⟩
  obtain ⟨e1, e2, e3, e4, e5⟩ := hi.opened hG ho hl hr
  rw [e1, List.length_map] at hrow
  have hv : ∃ A c, v = .slice A ps.length c := by
    rcases hrow.2 with ⟨rfl, h0⟩ | ⟨g', cap, cur, rfl, _⟩
    · exact ⟨none, 0, by rw [h0]⟩
    · exact ⟨_, _, rfl⟩
  obtain ⟨A, c, rfl⟩ := hv
  exact ⟨bl, g, A, c, S.1, rfl, ⟨ha, e2, ho⟩, e3, e4, e5, hrow, hs⟩
section
variable {G : ByteArray → Prop} {w0 w : World} {X : Nat → Prop} {bm bl g n : Nat} {M : Med} {L : Lg} {ps : List Pc}
theorem Now.bounds (h : Now G w0 X bm bl g M L ps n w) (hx : L.next ≤ 1000000) : 0 ≤ L.file ∧ L.file ≤ 2000000 ∧ 0 ≤ L.at' ∧ L.at' ≤ 16 ∧ 0 ≤ L.next := by
  have := h.inv.at_bd
  have := h.inv.bd
  omega
theorem Now.append_sure (h : Now G w0 X bm bl g M L ps n w) (hl : M.left < 0) (hn : n ≤ 10000000000000) (hx : L.next ≤ 1000000) (D : List UInt8) (hD : D.length ≤ 440) :
    Calls Try.prog 32 #[.pointer (some ⟨bl, 0, none⟩), .string ⟨D.toArray⟩] w fun e w' => ∃ M' L' p, e = .returned (.tuple #[.int .i64 L.next, .int .i64 0]) ∧ Now G w0 X bm bl g M' L' (ps ++ [p]) (n + 30) w' ∧ M'.left < 0 ∧ L'.next = L.next + 1 ∧ p.n = L.next ∧ p.d = D ∧ (p.f = L.file ∧ p.a = L.at' ∨ p.f = L.file + 1 ∧ p.a = 0 ∧ 16 < L.at' + p.q) ∧ Same X w w' := by
  obtain ⟨b1, b2, b3, b4, b5⟩ := h.bounds hx
  have hs : ByteArray.size ⟨D.toArray⟩ = D.length := size_mk D
  refine (append_calls h.at_ hn ⟨D.toArray⟩ (by rw [hs]; omega) ⟨b1, b2⟩ ⟨b3, b4⟩ ⟨b5, by omega⟩).mono ?_
  rintro e w' ⟨rfl, ha, hs⟩
  rcases h.inv.append hD h.off hx (.inl hl) with ⟨o1, o2, o3, o4, o5, p, p1, p2, p3, p4⟩ | ⟨_, k, _⟩
  · exact ⟨_, _, p, by rw [o1, o2], ⟨ha, p4, o3⟩, o4 hl, o5, p1, p2, p3, hs⟩
  · exact absurd hl k
theorem Now.trim_sure (h : Now G w0 X bm bl g M L ps n w) (hl : M.left < 0) (hn : n ≤ 10000000000000) (x : Int) :
    Calls Try.prog 34 #[.pointer (some ⟨bl, 0, none⟩), .int .i64 x] w fun e w' => ∃ M' B0 B, e = .returned (.int .i64 0) ∧ Now G w0 X bm bl g M' L B (n + 4000000) w' ∧ M'.left < 0 ∧ ps = B0 ++ B ∧ (B = [] → ps = []) ∧ (∀ p ∈ B0, p.n ≤ x) ∧ (∀ p0, B[0]? = some p0 → p0.f < L.file → ∃ p' ∈ B, p'.f = p0.f ∧ x < p'.n) ∧ Same X w w' := by
  obtain ⟨l, hf⟩ := files_ex h.inv.filed
  have hle := files_le h.inv.filed hf
  have hsl : (segsOf l).length ≤ l.length := List.length_filter_le _ _
  have hm : ∀ f, f ∈ segsOf l ↔ M.has f = true ∧ 2 ≤ f := fun f => by unfold segsOf; rw [List.mem_filter, hf.mem f]; simp
  have hup : (segsOf l).Pairwise (· < ·) := hf.up.filter _
  refine (trim_calls h.at_ h.inv.filed hn hf x).mono ?_
  rintro e w' ⟨rfl, ha, hs⟩
  obtain ⟨B0, B, h1, h2, h3, h4, h5⟩ := Inv.trimmed x (segsOf l) M ps h.inv h.off hup hm
  rcases h5 with ⟨o1, o2, o3, o4⟩ | ⟨_, k⟩
  · exact ⟨_, B0, B, by rw [o1], ⟨ha.mono (by omega), h4, o2⟩, o3 hl, h1, h2, h3, o4, hs⟩
  · exact absurd hl k
theorem Now.sectors (h : Now NoG w0 X bm bl g M L ps n w) (hn : n ≤ 10000000000000) :
    Calls Try.prog 35 #[.pointer (some ⟨bl, 0, none⟩)] w fun e w' => e = .returned (.int .i64 (sumQ ps)) ∧ Now NoG w0 X bm bl g M L ps n w' ∧ Same X w w' := by
  obtain ⟨l, hf⟩ := files_ex h.inv.filed
  obtain ⟨k1, k2⟩ := h.inv.sectors hf
  obtain ⟨b1, b2, b3, _⟩ := h.inv.at_bd
  refine (sectors_calls h.at_ h.inv.filed h.inv.ranged hn hf (tot ps) k1 b2 (by omega)).mono ?_
  rintro e w' ⟨rfl, ha, hs⟩
  exact ⟨by rw [k2], ⟨ha, h.inv, h.off⟩, hs⟩
theorem Now.nxt (h : Now G w0 X bm bl g M L ps n w) : Calls Try.prog 36 #[.pointer (some ⟨bl, 0, none⟩)] w fun e w' => e = .returned (.int .i64 L.next) ∧ w = w' := next_calls h.at_
/-- A log is opened beside another, of the same media. -/
theorem Now.again (h : Now G w0 X bm bl g M L ps n w) (hX : ∀ i, ¬X i) (hG : ∀ s, G s → Front s) (hn : n ≤ 1000000000000) :
    Calls Try.prog 31 #[.pointer (some ⟨bm, 0, none⟩)] w fun e w' => ∃ bk gk A c L', e = .returned (.tuple #[.pointer (some ⟨bk, 0, none⟩), .slice A ps.length c, .int .i64 0]) ∧
      Now G w0 (fun i => (Value.slice A ps.length c).ownBlock = some i ∨ i = bk ∨ i = gk) bm bl g M L ps (n + 50000000) w' ∧ Now G w0 (fun i => (Value.slice A ps.length c).ownBlock = some i ∨ i = bl ∨ i = g) bm bk gk M L' ps (n + 50000000) w' ∧
      L'.file = L.file ∧ L'.at' = L.at' ∧ L'.next = L.next ∧ w'.ownsRow w.heap.size 57 2 (.slice A ps.length c) ps.length (fcells (ps.map fr)) := by
  refine (open_now (X := fun i => X i ∨ i = bl ∨ i = g) h.at_.med h.inv hG h.off hn).mono ?_
  rintro e w' ⟨bk, gk, A, c, L', rfl, hk, e1, e2, e3, hrow, hs⟩
  have hlt : ∀ i, (Value.slice A ps.length c).ownBlock = some i → w.heap.size ≤ i := fun i hi => (hrow.lt i hi).1
  have hbl := h.at_.med.lt bl (.inr (.inl rfl))
  have hg := h.at_.med.lt g (.inr (.inr rfl))
  have xb := hk.at_.xb
  have xg := hk.at_.xg
  refine ⟨bk, gk, A, c, L', rfl, ⟨⟨hk.at_.med.narrow _ ?_, (hs bl (.inr (.inl rfl))).trans h.at_.hL, (h.at_.hg.same (hs g (.inr (.inr rfl)))).mono (by omega), h.at_.lb, h.at_.lg, ?_, ?_⟩, h.inv, h.off⟩, ⟨hk.at_.narrow _ ?_, hk.inv, hk.off⟩, e1, e2, e3, hrow⟩
  · rintro i ((hi | rfl | rfl) | rfl | rfl)
    · exact .inl (.inr hi)
    · exact .inr (.inl rfl)
    · exact .inr (.inr rfl)
    · exact .inl (.inl (.inr (.inl rfl)))
    · exact .inl (.inl (.inr (.inr rfl)))
  · rintro (hi | rfl | rfl)
    · have := hlt _ hi; omega
    · exact xb (.inl (.inr (.inl rfl)))
    · exact xg (.inl (.inr (.inl rfl)))
  · rintro (hi | rfl | rfl)
    · have := hlt _ hi; omega
    · exact xb (.inl (.inr (.inr rfl)))
    · exact xg (.inl (.inr (.inr rfl)))
  · rintro i (hi | rfl | rfl)
    · exact .inr hi
    · exact .inl (.inr (.inl rfl))
    · exact .inl (.inr (.inr rfl))
/-- The other log, where a call of the one has left it alone. -/
theorem Now.swap {v : Option Nat} {bk gk : Nat} {K : Lg} {w' : World} (h : Now G w0 (fun i => v = some i ∨ i = bk ∨ i = gk) bm bl g M L ps n w') (k : Now G w0 (fun i => v = some i ∨ i = bl ∨ i = g) bm bk gk M K ps n w) (hs : Same (fun i => v = some i ∨ i = bk ∨ i = gk) w w') : Now G w0 (fun i => v = some i ∨ i = bl ∨ i = g) bm bk gk M K ps n w' := by
  refine ⟨k.at_.other (h.at_.med.narrow _ ?_) (hs bk (.inr (.inl rfl))) (hs gk (.inr (.inr rfl))) (Nat.le_refl _), k.inv, k.off⟩
  rintro i ((hi | rfl | rfl) | rfl | rfl)
  · exact .inl (.inl hi)
  · exact .inr (.inl rfl)
  · exact .inr (.inr rfl)
  · exact .inl (.inr (.inl rfl))
  · exact .inl (.inr (.inr rfl))
end
end Go.Proofs.Ytdjcaogffppdhaa.Log
namespace Go.Proofs.Ytdjcaogffppdhaa.Log
open Go.RowKit Go.ChangeMaps Go.Proofs.Ytdjcaogffppdhaa.IMap Go.Proofs.Ytdjcaogffppdhaa.AtX Go.Proofs.Ytdjcaogffppdhaa.SumPure Go.Proofs.Ytdjcaogffppdhaa.Lst Go.Proofs.Ytdjcaogffppdhaa.LogZ
open Go.Proofs.Ytdjcaogffppdhaa.Med (IsMed Med Ranged IsSize IsFiles Filed)
open Go.Proofs.Ytdjcaogffppdhaa.FramesPure
open Go.Proofs.YtdjcaogffppdhaaW.PrintWords Go.Proofs.YtdjcaogffppdhaaW.PrintLast Go.Proofs.YtdjcaogffppdhaaW.PrintMore
/-- The example's log behind i frames. -/
structure Ex (L : Lg) (ps : List Pc) (i : Nat) : Prop where
  len : ps.length = i
  nx : L.next = i + 1
  d : ∀ p ∈ ps, p.d = zeroL 100
  f : ∀ p ∈ ps, (p.n ≤ 8 → p.f = 2) ∧ (8 < p.n → p.f = 3)
  lf : L.file = if i ≤ 8 then 2 else 3
  la : L.at' = if i ≤ 8 then 2 * i else 2 * (i - 8)
theorem cnt100 : cnt (zeroL 100).length = 2 := by decide
theorem Ex.start {L : Lg} (h : L.next = 1) (h1 : L.file = 2) (h2 : L.at' = 0) : Ex L [] 0 :=
  ⟨rfl, by rw [h]; rfl, (by intro p hp; cases hp), (by intro p hp; cases hp), by rw [h1]; rfl, by rw [h2]; rfl⟩
theorem Ex.more {M' : Med} {L L' : Lg} {ps : List Pc} {i : Nat} {p : Pc} (h : Ex L ps i) (hi : i < 12) (hI : Inv NoG M' L' (ps ++ [p])) (hn : L'.next = L.next + 1) (h1 : p.n = L.next) (h2 : p.d = zeroL 100) (h3 : p.f = L.file ∧ p.a = L.at' ∨ p.f = L.file + 1 ∧ p.a = 0 ∧ 16 < L.at' + p.q) : Ex L' (ps ++ [p]) (i + 1) := by
  have hq : p.q = 2 := by unfold Pc.q; rw [h2, cnt100]; rfl
  obtain ⟨z1, z2, z3⟩ := hI.lst p (by rw [List.length_append, List.getElem?_append_right (by simp)]; simp)
  have g := (hI.good p (by simp)).a1
  have lf := h.lf
  have la := h.la
  have nx := h.nx
  have hpf : p.f = (if i < 8 then 2 else 3) ∧ p.a = (if i < 8 then 2 * (i : Int) else 2 * ((i : Int) - 8)) := by
    split at lf <;> split at la <;> split <;> omega
  refine ⟨by rw [List.length_append, h.len]; rfl, by omega, fun x hx => ?_, fun x hx => ?_, ?_, ?_⟩
  · rcases List.mem_append.1 hx with hx | hx
    · exact h.d x hx
    · rw [List.mem_singleton.1 hx]; exact h2
  · rcases List.mem_append.1 hx with hx | hx
    · exact h.f x hx
    · rw [List.mem_singleton.1 hx]
      obtain ⟨k, _⟩ := hpf
      split at k <;> constructor <;> intro _ <;> omega
  · obtain ⟨k, _⟩ := hpf
    rw [z1, k]; split <;> split <;> omega
  · obtain ⟨k, k2⟩ := hpf
    rw [z2, k2, hq]; split <;> split <;> omega
theorem sum2 : ∀ ps : List Pc, (∀ p ∈ ps, p.d = zeroL 100) → sumQ ps = 2 * (ps.length : Int) := by
  intro ps
  induction ps with
  | nil => intro _; rfl
  | cons p l ih =>
    intro h
    have hq : p.q = 2 := by unfold Pc.q; rw [h p List.mem_cons_self, cnt100]; rfl
    rw [sumQ, ih fun x hx => h x (List.mem_cons_of_mem _ hx), hq, List.length_cons]; omega
/-- What the example's Trim leaves. -/
theorem Ex.trimmed {M : Med} {L : Lg} {ps A B : List Pc} (h : Ex L ps 12) (hI : Inv NoG M L ps) (he : ps = A ++ B) (hb : B = [] → ps = []) (hA : ∀ p ∈ A, p.n ≤ 8) (hB : ∀ p0, B[0]? = some p0 → p0.f < L.file → ∃ p' ∈ B, p'.f = p0.f ∧ 8 < p'.n) :
    B.length = 4 ∧ sumQ B = 8 ∧ (∃ b, B[0]? = some b ∧ b.n = 9 ∧ b.d = zeroL 100) := by
  have hlen := h.len
  have hne : B ≠ [] := fun e => by have := hb e; rw [this] at hlen; simp at hlen
  obtain ⟨b, hb0⟩ : ∃ b, B[0]? = some b := ⟨_, List.getElem?_eq_getElem (List.length_pos_iff.2 hne)⟩
  have hbm : b ∈ ps := by rw [he]; exact List.mem_append_right _ (List.mem_of_getElem? hb0)
  have ix : ps[A.length + 0]? = some b := by rw [he, List.getElem?_append_right (by omega)]; simpa using hb0
  have e1 := (hI.below ix).1
  have hl : A.length + B.length = 12 := by rw [← hlen, he, List.length_append]
  have nx := h.nx
  have lf := h.lf
  have hbf := h.f b hbm
  have hbl : 0 < B.length := List.length_pos_iff.2 hne
  have hbn : 8 < b.n := by
    by_cases k : 8 < b.n
    · exact k
    · exfalso
      obtain ⟨p', m, q1, q2⟩ := hB b hb0 (by rw [lf]; have := hbf.1 (by omega); split <;> omega)
      have := (h.f p' (by rw [he]; exact List.mem_append_right _ m)).2 q2
      have := hbf.1 (by omega)
      omega
  have hA8 : A.length ≤ 8 := by
    by_cases k : A = []
    · rw [k]; simp
    · have hal : 0 < A.length := List.length_pos_iff.2 k
      have hz : A[A.length - 1]? = some A[A.length - 1] := List.getElem?_eq_getElem (by omega)
      have m := hA _ (List.mem_of_getElem? hz)
      have iz : ps[A.length - 1]? = some A[A.length - 1] := by rw [he, List.getElem?_append_left (by omega)]; exact hz
      have := (hI.below iz).1
      omega
  have hd : ∀ p ∈ B, p.d = zeroL 100 := fun p hp => h.d p (by rw [he]; exact List.mem_append_right _ hp)
  have h4 : B.length = 4 := by omega
  exact ⟨h4, by rw [sum2 B hd, h4]; rfl, b, hb0, by omega, h.d b hbm⟩
set_option maxHeartbeats 16000000 in
set_option maxRecDepth 100000 in
theorem awake_calls (w : World) : Calls Try.prog 37 #[] w fun e w' => e = .returned (.bool true) ∧ Below w.heap.size w w' := by
  have cz : ∀ W, Calls Try.prog 33 #[.int .i64 100] W fun e w' => e = .returned (.string ⟨(zeroL 100).toArray⟩) ∧ Below W.heap.size W w' := fun W => zeros_any 100 (by decide) W
  have HZ := Aside0.mk cz
  clear cz
  obtain ⟨Z, hZ⟩ : ∃ Z : ByteArray, Z = ⟨(zeroL 100).toArray⟩ := ⟨_, rfl⟩
  rw [← hZ] at HZ
  have HZe := Aside0.mk hZ
  clear hZ
  go_enter Try.func37, Try.ntmps37
  go_wp2_with (fail)
  refine (AtX.new w).mono ?_
  rintro e w1 ⟨b, rfl, h1⟩
  have H1 := Aside0.mk h1
  clear h1
  go_wp2_with (fail)
  refine (open_now H1.out (Inv.new NoG) (fun s k => k.elim) rfl (by decide)).mono ?_
  rintro e w2 ⟨bl, g, A0, c0, L0, rfl, h2, e1, e2, e3, _, _⟩
  have HE := Aside0.mk (Ex.start (L := L0) e3 e1 e2)
  have HL0 := Aside0.mk e3
  have H2 : Aside0 (Now NoG w (fun _ => False) b bl g Med.Med.new L0 [] (0 + 50000000) w2) := ⟨⟨h2.at_.narrow _ fun i hi => hi.elim, h2.inv, h2.off⟩⟩
  clear h2 e1 e2 e3 H1
  simp only [List.length_nil]
  go_wp2_with (go_at_call 36; refine H2.out.nxt.mono ?_; rintro e wN ⟨rfl, rfl⟩; rw [HL0.out])
  go_loopw [5] (fun v5 wr => ∃ (i : Nat) (M : Med) (L : Lg) (ps : List Pc), i ≤ 12 ∧ v5 = .int .i64 i ∧ Aside0 (Now NoG w (fun _ => False) b bl g M L ps (50000000 + 30 * i) wr) ∧ Aside0 (Ex L ps i) ∧ Aside0 (M.left < 0)) (fun v5 _ => 12 - (intOf v5).toNat)
  case atStart => exact ⟨0, Med.Med.new, L0, [], by omega, rfl, ⟨H2.out⟩, ⟨HE.out⟩, ⟨by decide⟩⟩
  case round =>
    obtain ⟨i, M, L, ps, hi, rfl, HA, HX, HL⟩ := hrel
    clear H2 HE HL0
    by_cases hlt : i < 12
    · have hnx : L.next = ((i : Nat) : Int) + 1 := HX.out.nx
      have HNX := Aside0.mk hnx
      clear hnx
      have ww : IntKind.i64.wrap ((i : Int) + 1) = (i : Int) + 1 := by rw [IntKind.wrap_i64]; omega
      go_wp2_with (fail)
      refine (HZ.out _).mono ?_
      rintro e wS ⟨rfl, hh⟩
      have HB := Aside0.mk (HA.out.after hh)
      clear hh HA
      go_wp2_with (fail)
      have cap := HB.out.append_sure HL.out (by omega) (by have := HNX.out; omega) (zeroL 100) (by decide)
      rw [← HZe.out, HNX.out] at cap
      refine cap.mono ?_
      rintro e wT ⟨M', L', p, rfl, h1, h2, h3, h4, h5, h6, _⟩
      have HC := Aside0.mk h1
      have HL' := Aside0.mk h2
      have HX' := Aside0.mk (HX.out.more hlt h1.inv (h3.trans (by rw [HNX.out])) (h4.trans HNX.out.symm) h5 h6)
      clear h1 h2 h3 h4 h5 h6 cap HB
      go_wp2
      go_roundw
      case rel => exact ⟨i + 1, M', L', _, by omega, by congr 1, ⟨HC.out.mono (by omega)⟩, HX', HL'⟩
      case measure => simp only [intOf]; omega
    · have h12 : i = 12 := by omega
      have HX2 : Aside0 (Ex L ps 12) := ⟨h12 ▸ HX.out⟩
      have hsum : sumQ ps = 24 := by rw [sum2 ps HX2.out.d, HX2.out.len]; rfl
      have HSM := Aside0.mk hsum
      have cse := HA.out.sectors (by omega)
      rw [hsum] at cse
      have HCS := Aside0.mk cse
      clear HX h12 hsum cse HA
      go_wp2_with (fail)
      refine HCS.out.mono ?_
      rintro e wS ⟨rfl, h1, _⟩
      have H1 := Aside0.mk h1
      clear h1 HCS
      go_wp2_with (fail)
      refine (H1.out.trim_sure HL.out (by omega) 8).mono ?_
      rintro e wT ⟨M2, B0, B, rfl, h2, _, he, hb, hA, hB, _⟩
      have HT := Aside0.mk (HX2.out.trimmed H1.out.inv he hb hA hB)
      have H2 := Aside0.mk h2
      clear h2 he hb hA hB H1
      go_wp2_with (fail)
      have cop := H2.out.again (fun _ k => k) (fun s k => k.elim) (by omega)
      rw [HT.out.1] at cop
      refine cop.mono ?_
      rintro e wO ⟨bk, gk, A, c, K, rfl, ho, hk, e1, e2, e3, hrow⟩
      have HO := Aside0.mk (And.intro ho hk)
      have HN : Aside0 (K.next = 13) := ⟨e3.trans (HX2.out.nx.trans rfl)⟩
      obtain ⟨q, cap, hv, q1, q2, q3, q4⟩ := row_cell hrow (by decide)
      have HV := Aside0.mk hv
      have hfc : (fcells (B.map fr))[0]? = some (.int .i64 9) ∧ (fcells (B.map fr))[1]? = some (.string Z) := by
        obtain ⟨_, _, b9, k1, k2, k3⟩ := HT.out
        obtain ⟨k4, k5⟩ := fcells_at (B.map fr) 0 (fr b9) (by rw [List.getElem?_map, k1]; rfl)
        rw [Nat.zero_mul] at k4 k5
        rw [k4, k5]
        unfold fr
        rw [k2, k3, HZe.out]
        exact ⟨rfl, rfl⟩
      have c0 := q4 0 _ hfc.1
      have c1 := q4 1 _ hfc.2
      clear hfc q4 hrow ho hk e1 e2 e3 H2 cop q1 hv
      obtain ⟨rfl, rfl⟩ : A = some ⟨q, 0, none⟩ ∧ c = cap := by
        have := HV.out
        injection this with a1 a2 a3
        exact ⟨a1, a3⟩
      go_upto_region 14 with (fail)
      have HS8 : Aside0 (sumQ B = 8) := ⟨HT.out.2.1⟩
      first
        | (go_region_held3 (fun w' => w'.cell? ⟨q, 0, none⟩ = some (.int .i64 9) ∧ w'.cell? ⟨q, 1, none⟩ = some (.string Z)) (first | (refine ⟨?_, ?_⟩ <;> assumption) | go_keep) (first
          | (go_at_call 35; refine (HO.out.1.drew.sectors (by omega)).mono ?_; rintro e wP ⟨rfl, k1, k2⟩; have HP := Aside0.mk (k1.swap HO.out.2.drew k2); have d0 : wP.cell? ⟨q, 0, none⟩ = some (.int .i64 9) := (World.cell?_of_block (k2 q (.inl rfl))).trans c0; have d1 : wP.cell? ⟨q, 1, none⟩ = some (.string Z) := (World.cell?_of_block (k2 q (.inl rfl))).trans c1; rw [HS8.out]; clear k1 k2)
          | (go_at_call 33; refine (HZ.out _).mono ?_; rintro e wQ ⟨rfl, k⟩; have HQ := Aside0.mk (HP.out.after k); have f0 : wQ.cell? ⟨q, 0, none⟩ = some (.int .i64 9) := (World.cell?_of_block (k.block q (HP.out.at_.lt q (.inl rfl)))).trans d0; have f1 : wQ.cell? ⟨q, 1, none⟩ = some (.string Z) := (World.cell?_of_block (k.block q (HP.out.at_.lt q (.inl rfl)))).trans d1; clear k)
          | (go_at_call 36; refine HQ.out.nxt.mono ?_; rintro e wR ⟨rfl, rfl⟩; rw [HN.out])))
        | fail "held3 failed"
      all_goals
        go_wp2
        go_ret
        exact ⟨rfl, HQ.out.at_.below⟩
end Go.Proofs.Ytdjcaogffppdhaa.Log
