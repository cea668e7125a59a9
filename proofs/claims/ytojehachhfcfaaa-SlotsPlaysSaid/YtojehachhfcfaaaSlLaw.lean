/- What is saved is loaded; what was torn is none: the slots' law, over the media's functions. -/
import Derived.Test.YtojehachhfcfaaaSlPure
set_option linter.unusedVariables false
set_option linter.unusedSimpArgs false
namespace Go.Proofs.Ytojehachhfcfaaa.SlLaw
open Go.RowKit Go.Proofs.Ytojehachhfcfaaa.SumPure Go.Proofs.Ytojehachhfcfaaa.Arr Go.Proofs.Ytojehachhfcfaaa.SlSect Go.Proofs.Ytojehachhfcfaaa.Save Go.Proofs.Ytojehachhfcfaaa.SlPure
open Go.Proofs.Ytojehachhfcfaaa.Med (Med)

/-! ### What a sector says is what was laid into it -/
theorem b8i (x : Int) : ((b8 x).toNat : Int) = x % 256 := b8_int x
theorem four (n : Int) (h0 : 0 ≤ n) (h1 : n < 4294967296) : smallL 0 [b8 (n / 16777216), b8 (n / 65536), b8 (n / 256), b8 n] = n := by
  simp only [smallL, b8i]; omega
theorem two (n : Int) (h0 : 0 ≤ n) (h1 : n < 65536) : smallL 0 [b8 (n / 256), b8 n] = n := by
  simp only [smallL, b8i]; omega
theorem sN_sect (n p q : Int) (d : List UInt8) (h0 : 0 ≤ n) (h1 : n < 4294967296) : sN (sect n p q d) = n := by
  have : (sect n p q d).take 4 = [b8 (n / 16777216), b8 (n / 65536), b8 (n / 256), b8 n] := by simp [sect, body, head]
  unfold sN; rw [this, four n h0 h1]
theorem sP_sect (n p q : Int) (d : List UInt8) (h0 : 0 ≤ p) (h1 : p < 65536) : sP (sect n p q d) = p := by
  have : ((sect n p q d).drop 4).take 2 = [b8 (p / 256), b8 p] := by simp [sect, body, head]
  unfold sP; rw [this, two p h0 h1]
theorem sQ_sect (n p q : Int) (d : List UInt8) (h0 : 0 ≤ q) (h1 : q < 65536) : sQ (sect n p q d) = q := by
  have : ((sect n p q d).drop 6).take 2 = [b8 (q / 256), b8 q] := by simp [sect, body, head]
  unfold sQ; rw [this, two q h0 h1]
theorem sM_sect (n p q : Int) (d : List UInt8) (h : d.length ≤ 53) : sM (sect n p q d) = d.length := by
  have : (sect n p q d).getD 8 0 = b8 d.length := by simp [sect, body, head]
  unfold sM; rw [this]
  have := b8i d.length
  omega
theorem sD_sect (n p q : Int) (d : List UInt8) (h : d.length ≤ 53) : sD (sect n p q d) = d := by
  unfold sD
  rw [sM_sect n p q d h]
  have : (sect n p q d).drop 9 = d ++ (List.replicate (53 - d.length) 0 ++ [b8 (sumL 1 (body n p q d) / 256), b8 (sumL 1 (body n p q d))]) := by simp [sect, body, head]
  rw [this, List.take_left']
  rfl

/-! ### A snapshot's parts -/
theorem scnt_pos (n : Nat) : 1 ≤ scnt n := by unfold scnt; omega
theorem schunk_at (D : List UInt8) (j : Nat) (hj : j < scnt D.length) : (schunk D j).length = 53 ∨ j = scnt D.length - 1 ∧ (schunk D j ≠ [] ∨ j = 0) := by
  have hl : (schunk D j).length = min 53 (D.length - 53 * j) := by simp [schunk]
  by_cases h : 53 * j + 53 ≤ D.length
  · left; omega
  · right
    unfold scnt at hj ⊢
    refine ⟨by omega, ?_⟩
    by_cases h0 : j = 0
    · exact .inr h0
    · left
      intro e
      rw [e] at hl
      simp at hl
      omega
theorem take_chunk (D : List UInt8) (j : Nat) : D.take (53 * j) ++ schunk D j = D.take (53 * (j + 1)) := by
  unfold schunk
  rw [show 53 * (j + 1) = 53 * j + 53 from by omega, List.take_add]
theorem take_all (D : List UInt8) : D.take (53 * scnt D.length) = D := by
  rw [List.take_of_length_le]; unfold scnt; omega
theorem read_there {M : Med} {f : Int} {j : Nat} {s : ByteArray} (hoff : M.off = false) (hf : 0 ≤ f) (hf2 : f < 1048576) (hj : j < 65536) (h : M.S f j = some s) : M.read f j = (s, 0) := by
  unfold Med.read
  have hr : M.ready f j 64 = 0 := by unfold Med.ready; rw [hoff, if_neg (by simp), if_neg (by omega)]
  rw [if_pos hr, h]
theorem read_none {M : Med} {f : Int} {j : Nat} (hoff : M.off = false) (hf : 0 ≤ f) (hf2 : f < 1048576) (hj : j < 65536) (h : M.S f j = none) : M.read f j = (⟨#[]⟩, 41) := by
  unfold Med.read
  have hr : M.ready f j 64 = 0 := by unfold Med.ready; rw [hoff, if_neg (by simp), if_neg (by omega)]
  rw [if_pos hr, h]
theorem read_inv {M : Med} {f : Int} {j : Nat} {s : ByteArray} (h : M.read f j = (s, 0)) : M.S f j = some s ∧ M.off = false := by
  unfold Med.read at h
  split at h
  · rename_i h0
    refine ⟨?_, (Med.ready_zero h0).2.2.2.2.2⟩
    split at h
    · rename_i s' hs
      simp at h
      rw [hs, h]
    · simp at h
  · rename_i h0
    exact absurd (congrArg Prod.snd h) h0
def fits (n : Int) (q : Nat) (j : Nat) : Prop := 0 ≤ n ∧ n ≤ 2147483647 ∧ q < 65536 ∧ j < 65536
theorem ssec_toList (n : Int) (D : List UInt8) (q j : Nat) : (ssec n D q j).data.toList = sect n j q (schunk D j) := by simp [ssec]
theorem ssec_says {n : Int} {q j : Nat} (D : List UInt8) (h : fits n q j) : sN (ssec n D q j).data.toList = n ∧ sP (ssec n D q j).data.toList = j ∧ sQ (ssec n D q j).data.toList = q ∧ sM (ssec n D q j).data.toList = (schunk D j).length ∧ sD (ssec n D q j).data.toList = schunk D j := by
  obtain ⟨h0, h1, h2, h3⟩ := h
  rw [ssec_toList]
  exact ⟨sN_sect _ _ _ _ h0 (by omega), sP_sect _ _ _ _ (by omega) (by omega), sQ_sect _ _ _ _ (by omega) (by omega), sM_sect _ _ _ _ (schunk_len D j), sD_sect _ _ _ _ (schunk_len D j)⟩
theorem ssec_ok {n : Int} {j : Nat} (D : List UInt8) (h : fits n (scnt D.length) j) (hj : j < scnt D.length) : okSec (ssec n D (scnt D.length) j).data.toList j n ((scnt D.length : Nat) : Int) := by
  obtain ⟨a, b, c, d, e⟩ := ssec_says D h
  refine ⟨by rw [a, b, c, e, ssec_toList], a, c, b, ?_⟩
  rw [c, e]
  rcases schunk_at D j hj with h | ⟨h, h'⟩
  · exact .inl h
  · refine .inr ⟨?_, h'⟩
    have := scnt_pos D.length
    omega
/-- A slot that holds a snapshot's sectors, read from part j on. -/
theorem slotL_there {M : Med} {f : Int} {n : Int} {D : List UInt8} (hoff : M.off = false) (hf : 0 ≤ f) (hf2 : f < 1048576) (h0 : 0 ≤ n) (h1 : n ≤ 2147483647) (hq : scnt D.length < 65536)
    (hS : ∀ j, j < scnt D.length → M.S f (j : Nat) = some (ssec n D (scnt D.length) j)) :
    ∀ (d k j : Nat), 1 ≤ j → scnt D.length - j = d → j ≤ scnt D.length → d < k → slotL M f k j n ((scnt D.length : Nat) : Int) (D.take (53 * j)) = some (n, ((scnt D.length : Nat) : Int), D) := by
  intro d
  induction d with
  | zero =>
    intro k j hj hd hle hk
    obtain ⟨k, rfl⟩ : ∃ m, k = m + 1 := ⟨k - 1, by omega⟩
    rw [slotL, if_neg (by omega), show j = scnt D.length from by omega, take_all]
  | succ d ih =>
    intro k j hj hd hle hk
    obtain ⟨k, rfl⟩ : ∃ m, k = m + 1 := ⟨k - 1, by omega⟩
    have hfit : fits n (scnt D.length) j := ⟨h0, h1, hq, by omega⟩
    obtain ⟨a, b, c, e, e'⟩ := ssec_says D hfit
    have hc := schunk_len D j
    rw [slotL, if_pos (.inr (by omega)), read_there hoff hf hf2 (by omega) (hS j (by omega))]
    simp only []
    simp only [if_neg (show ¬ j = 0 by omega)]
    rw [if_pos ⟨trivial, by rw [e]; exact hc⟩, if_pos (ssec_ok D hfit (by omega)), e', take_chunk]
    exact ih k (j + 1) (by omega) (by omega) (by omega) (by omega)
theorem slotP_there {M : Med} {f : Int} {n : Int} {D : List UInt8} (hoff : M.off = false) (hf : f = n % 2) (h0 : 1 ≤ n) (h1 : n ≤ 2147483647) (hD : D.length ≤ 1000000)
    (hS : ∀ j, j < scnt D.length → M.S f (j : Nat) = some (ssec n D (scnt D.length) j)) : slotP M f = (n, D, true) := by
  have hq : scnt D.length < 65536 := by unfold scnt; omega
  have hp := scnt_pos D.length
  have hfit : fits n (scnt D.length) 0 := ⟨by omega, h1, hq, by omega⟩
  obtain ⟨a, b, c, e, e'⟩ := ssec_says D hfit
  have key : slotL M f 70000 0 0 0 [] = some (n, ((scnt D.length : Nat) : Int), D) := by
    have h69 := slotL_there (M := M) (f := f) hoff (by omega) (by omega) (by omega) h1 hq hS (scnt D.length - 1) 69999 1 (by omega) rfl hp (by omega)
    rw [show (70000 : Nat) = 69999 + 1 from rfl, slotL, if_pos (.inl rfl), read_there (j := 0) hoff (by omega) (by omega) (by omega) (hS 0 hp)]
    simp only [if_true]
    rw [if_pos ⟨trivial, by rw [e]; exact schunk_len D 0⟩, a, c, if_pos (ssec_ok D hfit hp), e', List.nil_append]
    have : schunk D 0 = D.take (53 * (0 + 1)) := by rw [← take_chunk]; simp
    rw [this]
    exact h69
  unfold slotP
  rw [key]
  simp only []
  rw [if_neg]
  rw [Int.tmod_eq_emod_of_nonneg (by omega)]
  omega
/-- What a slot that is whole consists of. -/
theorem slotL_inv {M : Med} {f : Int} {n q : Int} {D : List UInt8} : ∀ (k i : Nat) (n0 q0 : Int) (acc : List UInt8), 1 ≤ i → slotL M f k i n0 q0 acc = some (n, q, D) →
    n = n0 ∧ q = q0 ∧ ∃ ds : List (List UInt8), D = acc ++ ds.flatten ∧ (ds ≠ [] → (i + ds.length : Int) = q0) ∧ (ds = [] → q0 ≤ i) ∧ ∀ j (h : j < ds.length), ∃ s, M.read f ((i + j : Nat) : Int) = (s, 0) ∧ sM s.data.toList ≤ 53 ∧ okSec s.data.toList (i + j) n0 q0 ∧ ds[j] = sD s.data.toList := by
  intro k
  induction k with
  | zero => intro i n0 q0 acc _ h; simp [slotL] at h
  | succ k ih =>
    intro i n0 q0 acc hi h
    rw [slotL] at h
    by_cases hc : i = 0 ∨ (i : Int) < q0
    · rw [if_pos hc] at h
      obtain ⟨s, e, hr⟩ : ∃ s e, M.read f i = (s, e) := ⟨_, _, rfl⟩
      rw [hr] at h
      simp only [if_neg (show ¬ i = 0 by omega)] at h
      by_cases h1 : e = 0 ∧ sM s.data.toList ≤ 53
      · rw [if_pos h1] at h
        by_cases h2 : okSec s.data.toList i n0 q0
        · rw [if_pos h2] at h
          obtain ⟨a, b, ds, hD, hl, hl0, hj⟩ := ih (i + 1) n0 q0 _ (by omega) h
          refine ⟨a, b, sD s.data.toList :: ds, by rw [hD]; simp, ?_, (fun h => by cases h), ?_⟩
          · intro _
            by_cases hds : ds = []
            · have := hl0 hds
              subst hds
              simp
              omega
            · have := hl hds
              simp
              omega
          · intro j hjl
            cases j with
            | zero => exact ⟨s, by rw [Nat.add_zero, hr, h1.1], h1.2, by rw [Nat.add_zero]; exact h2, rfl⟩
            | succ j =>
              obtain ⟨s', x1, x2, x3, x4⟩ := hj j (by simpa using hjl)
              exact ⟨s', by rw [show i + (j + 1) = i + 1 + j from by omega]; exact x1, x2, by rw [show i + (j + 1) = i + 1 + j from by omega]; exact x3, x4⟩
        · rw [if_neg h2] at h; cases h
      · rw [if_neg h1] at h; cases h
    · rw [if_neg hc] at h
      simp only [Option.some.injEq, Prod.mk.injEq] at h
      obtain ⟨rfl, rfl, rfl⟩ := h
      exact ⟨rfl, rfl, [], by simp, fun h => absurd rfl h, fun _ => by omega, fun j h => by simp at h⟩
theorem slotP_inv {M : Med} {f : Int} {n : Int} {D : List UInt8} (h : slotP M f = (n, D, true)) :
    1 ≤ n ∧ n ≤ 2147483647 ∧ n % 2 = f ∧ D.length ≤ 1000000 ∧ ∃ ds : List (List UInt8), 1 ≤ ds.length ∧ D = ds.flatten ∧ ∀ j (h : j < ds.length), ∃ s, M.read f (j : Nat) = (s, 0) ∧ sM s.data.toList ≤ 53 ∧ okSec s.data.toList j n ds.length ∧ ds[j] = sD s.data.toList := by
  unfold slotP at h
  split at h
  · simp at h
  · rename_i n' q' D' hs
    split at h
    · simp at h
    · rename_i hb
      simp only [Prod.mk.injEq, and_true] at h
      obtain ⟨rfl, rfl⟩ := h
      have ht : Int.tmod n' 2 = n' % 2 := Int.tmod_eq_emod_of_nonneg (by omega)
      rw [ht] at hb
      refine ⟨by omega, by omega, by omega, by omega, ?_⟩
      rw [show (70000 : Nat) = 69999 + 1 from rfl, slotL, if_pos (.inl rfl)] at hs
      obtain ⟨s, e, hr⟩ : ∃ s e, M.read f (0 : Nat) = (s, e) := ⟨_, _, rfl⟩
      rw [hr] at hs
      simp only [if_true] at hs
      by_cases h1 : e = 0 ∧ sM s.data.toList ≤ 53
      · rw [if_pos h1] at hs
        by_cases h2 : okSec s.data.toList 0 (sN s.data.toList) (sQ s.data.toList)
        · rw [if_pos h2] at hs
          obtain ⟨a, b, ds, hD, hl, hl0, hj⟩ := slotL_inv 69999 1 _ _ _ (Nat.le_refl _) hs
          have hq : (((sD s.data.toList :: ds).length : Nat) : Int) = q' := by
            by_cases hds : ds = []
            · have := hl0 hds
              subst hds
              simp
              omega
            · have := hl hds
              simp
              omega
          refine ⟨sD s.data.toList :: ds, by simp, by rw [hD]; simp, ?_⟩
          intro j hjl
          rw [hq]
          cases j with
          | zero => exact ⟨s, by rw [hr, h1.1], h1.2, by rw [a, b]; exact h2, rfl⟩
          | succ j =>
            obtain ⟨s', x1, x2, x3, x4⟩ := hj j (by simpa using hjl)
            exact ⟨s', by rw [show j + 1 = 1 + j from by omega]; exact x1, x2, by rw [show j + 1 = 1 + j from by omega, a, b]; exact x3, x4⟩
        · rw [if_neg h2] at hs; cases hs
      · rw [if_neg h1] at hs; cases hs
theorem slotP_cases (M : Med) (f : Int) : slotP M f = (0, [], false) ∨ ∃ n D, slotP M f = (n, D, true) := by
  unfold slotP
  split
  · exact .inl rfl
  · split
    · exact .inl rfl
    · exact .inr ⟨_, _, rfl⟩

/-! ### What the newest whole snapshot is -/
def load1 (a : Int × List UInt8 × Bool) (acc : Int × List UInt8 × Bool) : Int × List UInt8 × Bool := if a.2.2 = true ∧ a.1 > acc.1 then (a.1, a.2.1, true) else acc
def loadP (M : Med) : Int × List UInt8 × Bool := load1 (slotP M 1) (load1 (slotP M 0) (0, [], false))
def newest (M : Med) : Int × List UInt8 × Int := if (M.read 0 0).2 = 40 then (0, [], 40) else if (loadP M).2.2 = true then ((loadP M).1, (loadP M).2.1, 0) else (0, [], 41)

theorem load1_none (acc : Int × List UInt8 × Bool) : load1 (0, [], false) acc = acc := by unfold load1; rw [if_neg (by simp)]
theorem load1_gt {n : Int} {D : List UInt8} {acc : Int × List UInt8 × Bool} (h : n > acc.1) : load1 (n, D, true) acc = (n, D, true) := by unfold load1; rw [if_pos ⟨rfl, h⟩]
theorem load1_le {n : Int} {D : List UInt8} {acc : Int × List UInt8 × Bool} (h : ¬ n > acc.1) : load1 (n, D, true) acc = acc := by unfold load1; rw [if_neg (fun k => h k.2)]
/-- Each sector of a file is one of a snapshot of which P holds. -/
def All (M : Med) (f : Int) (P : Int → Nat → Nat → Prop) : Prop := ∀ (j : Nat) s, M.S f j = some s → ∃ n D q, s = ssec n D q j ∧ 0 ≤ n ∧ n ≤ 2147483647 ∧ q < 65536 ∧ P n q j
structure Inv (M : Med) (sure : Int) (was : List UInt8) : Prop where
  off : M.off = false
  left : M.left = -1
  s0 : 0 ≤ sure
  s1 : sure ≤ 2147483647
  wl : was.length ≤ 1000000
  here : 0 < sure → ∀ j, j < scnt was.length → M.S (sure % 2) (j : Nat) = some (ssec sure was (scnt was.length) j)
  own : All M (sure % 2) fun n _ _ => n ≤ sure
  oth : All M ((sure + 1) % 2) fun n q j => n ≤ sure - 1 ∨ n = sure + 1 ∧ j + 1 < q
theorem Inv.new : Inv Med.new 0 [] := by
  refine ⟨rfl, rfl, by omega, by omega, by simp, by omega, ?_, ?_⟩ <;> (intro j s h; cases h)
theorem read_lt {M : Med} {f : Int} {j : Nat} {s : ByteArray} (h : M.read f j = (s, 0)) : j < 65536 := by
  unfold Med.read at h
  split at h
  · rename_i h0
    have := (Med.ready_zero h0).2.2.2.1
    omega
  · rename_i h0
    exact absurd (congrArg Prod.snd h) h0
theorem All.whole {M : Med} {f : Int} {P : Int → Nat → Nat → Prop} (h : All M f P) {n : Int} {D : List UInt8} (hs : slotP M f = (n, D, true)) : ∃ q, 1 ≤ q ∧ ∀ j, j < q → P n q j := by
  obtain ⟨_, _, _, _, ds, h1, _, hj⟩ := slotP_inv hs
  refine ⟨ds.length, h1, fun j hjl => ?_⟩
  obtain ⟨s, hr, _, ho, _⟩ := hj j hjl
  obtain ⟨n', D', q', rfl, a, b, c, p⟩ := h j s (read_inv hr).1
  obtain ⟨x, y, z, _⟩ := ssec_says D' ⟨a, b, c, read_lt hr⟩
  have e1 := ho.2.1
  have e2 := ho.2.2.1
  rw [x] at e1
  rw [z] at e2
  rw [← e1, show ds.length = q' from by omega]
  exact p
/-- The other slot is not whole, or elder. -/
theorem Inv.other {M : Med} {sure : Int} {was : List UInt8} (h : Inv M sure was) : slotP M ((sure + 1) % 2) = (0, [], false) ∨ ∃ n D, slotP M ((sure + 1) % 2) = (n, D, true) ∧ n < sure := by
  rcases slotP_cases M ((sure + 1) % 2) with e | ⟨n, D, e⟩
  · exact .inl e
  · refine .inr ⟨n, D, e, ?_⟩
    obtain ⟨q, hq, hj⟩ := h.oth.whole e
    rcases hj 0 (by omega) with h0 | ⟨h0, _⟩
    · omega
    · rcases hj (q - 1) (by omega) with h1 | ⟨_, h1⟩ <;> omega
theorem Inv.same {M : Med} {sure : Int} {was : List UInt8} (h : Inv M sure was) (hs : 0 < sure) : slotP M (sure % 2) = (sure, was, true) :=
  slotP_there h.off rfl (by omega) h.s1 h.wl (h.here hs)
theorem load_read {M : Med} (h : M.off = false) : ¬(M.read 0 0).2 = 40 := by
  unfold Med.read
  have hr : M.ready 0 0 64 = 0 := by unfold Med.ready; rw [h]; simp
  rw [if_pos hr]
  split <;> simp
theorem Inv.loads {M : Med} {sure : Int} {was : List UInt8} (h : Inv M sure was) (hs : 0 < sure) : newest M = (sure, was, 0) := by
  have hp : loadP M = (sure, was, true) := by
    have h1 := h.same hs
    rcases Int.emod_two_eq sure with e | e
    · have e' : (sure + 1) % 2 = 1 := by omega
      have h2 := h.other
      rw [e] at h1
      rw [e'] at h2
      unfold loadP
      rw [h1, load1_gt (show sure > 0 from hs)]
      rcases h2 with h2 | ⟨n, D, h2, hn⟩
      · rw [h2, load1_none]
      · rw [h2, load1_le (show ¬ n > sure by omega)]
    · have e' : (sure + 1) % 2 = 0 := by omega
      have h2 := h.other
      rw [e] at h1
      rw [e'] at h2
      unfold loadP
      rw [h1]
      rcases h2 with h2 | ⟨n, D, h2, hn⟩
      · rw [h2, load1_none, load1_gt (show sure > 0 from hs)]
      · obtain ⟨hn1, _⟩ := slotP_inv h2
        rw [h2, load1_gt (n := n) (D := D) (acc := (0, [], false)) (show n > 0 by omega), load1_gt (show sure > n from hn)]
  unfold newest
  rw [if_neg (load_read h.off), hp]
  simp
theorem Inv.loads0 {M : Med} {was : List UInt8} (h : Inv M 0 was) : newest M = (0, [], 41) := by
  have h0 : slotP M 0 = (0, [], false) := by
    rcases slotP_cases M 0 with e | ⟨n, D, e⟩
    · exact e
    · have ho : All M 0 fun n _ _ => n ≤ 0 := h.own
      obtain ⟨q, hq, hj⟩ := ho.whole e
      have := hj 0 (by omega)
      obtain ⟨hn, _⟩ := slotP_inv e
      omega
  have h1 : slotP M 1 = (0, [], false) := by
    rcases h.other with e | ⟨n, D, e, hn⟩
    · exact e
    · obtain ⟨hn', _⟩ := slotP_inv e
      omega
  have hp : loadP M = (0, [], false) := by
    unfold loadP
    rw [h0, h1, load1_none, load1_none]
  unfold newest
  rw [if_neg (load_read h.off), hp]
  simp

/-! ### What Save makes of a media -/
theorem write_step {M : Med} {f : Int} {i : Nat} {s : ByteArray} (hoff : M.off = false) (hf : 0 ≤ f) (hf2 : f < 1048576) (hi : i < 65536) (hs : s.size = 64) :
    M.write f i s = if M.left = 0 then ({ M with off := true }, 40) else (({ M with left := if M.left > 0 then M.left - 1 else -1, writes := M.writes + 1 } : Med).made f |>.put f i s, 0) := by
  have hr : M.ready f i s.size = 0 := by unfold Med.ready; rw [hoff, if_neg (by simp), if_neg (by omega)]
  unfold Med.write
  rw [if_pos hr]
  unfold Med.spend
  by_cases h : M.left = 0
  · simp only [if_pos h]; simp
  · simp only [if_neg h]; simp
theorem ssec_size (n : Int) (D : List UInt8) (q i : Nat) : (ssec n D q i).size = 64 := by unfold ssec; rw [size_mk, sect_len _ _ _ _ (schunk_len D i)]
/-- So many sectors are written as there is power for. -/
theorem saveL_ends (n : Int) (D : List UInt8) (q : Nat) (f : Int) (hf : 0 ≤ f) (hf2 : f < 1048576) : ∀ (m i : Nat) (M : Med), i + m ≤ 65536 → M.off = false → -1 ≤ M.left →
    ∃ c : Nat, c ≤ m ∧ (0 ≤ M.left → (c : Int) ≤ M.left) ∧ (c < m → M.left = c) ∧ (M.left = -1 → c = m) ∧ (M.left ≥ m → c = m) ∧ (saveL n D q f m i M).2 = (if c = m then 0 else 40) ∧
      (saveL n D q f m i M).1.off = decide (c < m) ∧ (M.left = -1 → (saveL n D q f m i M).1.left = -1) ∧ (saveL n D q f m i M).1.writes = M.writes + c ∧
      ∀ g (j : Nat), (saveL n D q f m i M).1.S g j = if g = f ∧ i ≤ j ∧ j < i + c then some (ssec n D q j) else M.S g j := by
  intro m
  induction m with
  | zero =>
    intro i M _ hoff hl
    refine ⟨0, Nat.le_refl _, fun h => h, fun h => absurd h (by omega), fun _ => rfl, fun _ => rfl, rfl, by simp [saveL, hoff], fun h => h, by simp [saveL], fun g j => ?_⟩
    rw [if_neg (by omega)]; rfl
  | succ m ih =>
    intro i M hi hoff hl
    have hw := write_step (s := ssec n D q i) hoff hf hf2 (show i < 65536 by omega) (ssec_size n D q i)
    by_cases h0 : M.left = 0
    · rw [if_pos h0] at hw
      refine ⟨0, by omega, fun h => h, fun _ => by omega, fun h => by omega, fun h => by omega, ?_⟩
      rw [saveL, hw]
      simp only []
      rw [if_neg (by decide)]
      refine ⟨by simp, by simp, fun h => by omega, by simp, fun g j => ?_⟩
      rw [if_neg (by omega)]
    · rw [if_neg h0] at hw
      rw [saveL, hw]
      simp only []
      rw [if_pos trivial]
      obtain ⟨c, c1, c10, c2, c3, c4, c5, c6, c7, c8, c9⟩ := ih (i + 1) ((({ M with left := if M.left > 0 then M.left - 1 else -1, writes := M.writes + 1 } : Med).made f).put f i (ssec n D q i)) (by omega) hoff (by show -1 ≤ (if M.left > 0 then M.left - 1 else -1); split <;> omega)
      have hleft : ((({ M with left := if M.left > 0 then M.left - 1 else -1, writes := M.writes + 1 } : Med).made f).put f i (ssec n D q i)).left = if M.left > 0 then M.left - 1 else -1 := rfl
      rw [hleft] at c2 c3 c4 c7 c10
      refine ⟨c + 1, by omega, ?_, ?_, ?_, ?_, ?_, ?_, ?_, ?_, ?_⟩
      · intro h
        rw [if_pos (by omega)] at c10
        have := c10 (by omega)
        omega
      · intro h
        have := c2 (by omega)
        split at this <;> omega
      · intro h
        have := c3 (by rw [if_neg (by omega)])
        omega
      · intro h
        have := c4 (by rw [if_pos (by omega)]; omega)
        omega
      · rw [c5]
        by_cases hc : c = m
        · rw [if_pos hc, if_pos (by omega)]
        · rw [if_neg hc, if_neg (by omega)]
      · rw [c6]
        congr 1
        simp
      · intro h
        exact c7 (by rw [if_neg (by omega)])
      · rw [c8]
        show M.writes + 1 + (c : Int) = _
        omega
      · intro g j
        rw [c9]
        have hp : ((({ M with left := if M.left > 0 then M.left - 1 else -1, writes := M.writes + 1 } : Med).made f).put f i (ssec n D q i)).S g j = if g = f ∧ (j : Int) = i then some (ssec n D q i) else M.S g j := rfl
        rw [hp]
        by_cases h1 : g = f ∧ i + 1 ≤ j ∧ j < i + 1 + c
        · rw [if_pos h1, if_pos (by omega)]
        · rw [if_neg h1]
          by_cases h2 : g = f ∧ (j : Int) = i
          · rw [if_pos h2, if_pos (by omega), show j = i from by omega]
          · rw [if_neg h2, if_neg (by omega)]
/-- A snapshot is saved wholly: it is the sure one. -/
theorem Inv.saved {M M' : Med} {n : Int} {D : List UInt8} (hn : 1 ≤ n) (hn' : n ≤ 2147483647) (hD : D.length ≤ 1000000) (hoff : M'.off = false) (hl : M'.left = -1)
    (ho : All M (n % 2) fun x _ _ => x ≤ n) (hoth : All M ((n + 1) % 2) fun x _ _ => x ≤ n - 1)
    (hS : ∀ g (j : Nat), M'.S g j = if g = n % 2 ∧ 0 ≤ j ∧ j < 0 + scnt D.length then some (ssec n D (scnt D.length) j) else M.S g j) : Inv M' n D := by
  have hq : scnt D.length < 65536 := by unfold scnt; omega
  refine ⟨hoff, hl, by omega, hn', hD, fun _ j hj => by rw [hS, if_pos ⟨rfl, by omega, by omega⟩], ?_, ?_⟩
  · intro j s hs
    rw [hS] at hs
    by_cases h : n % 2 = n % 2 ∧ 0 ≤ j ∧ j < 0 + scnt D.length
    · rw [if_pos h] at hs
      exact ⟨n, D, scnt D.length, (Option.some.inj hs).symm, by omega, hn', hq, Int.le_refl _⟩
    · rw [if_neg h] at hs
      exact ho j s hs
  · intro j s hs
    rw [hS, if_neg (by omega)] at hs
    obtain ⟨a, b, c, d, e, f, g, h⟩ := hoth j s hs
    exact ⟨a, b, c, d, e, f, g, .inl h⟩
theorem save_go {M : Med} {n : Int} {D : List UInt8} (hn : 1 ≤ n) (hn' : n ≤ 2147483647) (hD : D.length ≤ 1000000) : save M n D = saveL n D (scnt D.length) (n % 2) (scnt D.length) 0 M := by
  unfold save; rw [if_neg (by omega)]
theorem Inv.left_on {M : Med} {sure : Int} {was : List UInt8} (h : Inv M sure was) {M' : Med} {c : Nat} {D : List UInt8} (hs : sure < 2147483647) (hoff : M'.off = false) (hl : M'.left = -1) (hc : c < scnt D.length) (hD : D.length ≤ 1000000)
    (hS : ∀ g (j : Nat), M'.S g j = if g = (sure + 1) % 2 ∧ 0 ≤ j ∧ j < 0 + c then some (ssec (sure + 1) D (scnt D.length) j) else M.S g j) : Inv M' sure was := by
  have hq : scnt D.length < 65536 := by unfold scnt; omega
  have h0 := h.s0
  refine ⟨hoff, hl, h.s0, h.s1, h.wl, fun hp j hj => by rw [hS, if_neg (by omega)]; exact h.here hp j hj, ?_, ?_⟩
  · intro j s hs
    rw [hS, if_neg (by omega)] at hs
    exact h.own j s hs
  · intro j s hs
    rw [hS] at hs
    by_cases hj : (sure + 1) % 2 = (sure + 1) % 2 ∧ 0 ≤ j ∧ j < 0 + c
    · rw [if_pos hj] at hs
      exact ⟨sure + 1, D, scnt D.length, (Option.some.inj hs).symm, by omega, by omega, hq, .inr ⟨rfl, by omega⟩⟩
    · rw [if_neg hj] at hs
      exact h.oth j s hs
/-- Saving without a power that goes off. -/
theorem Inv.saves {M : Med} {sure : Int} {was : List UInt8} (h : Inv M sure was) {D : List UInt8} (hs : sure < 2147483647) (hD : D.length ≤ 1000000) : (save M (sure + 1) D).2 = 0 ∧ Inv (save M (sure + 1) D).1.on (sure + 1) D ∧ Inv (save M (sure + 1) D).1 (sure + 1) D := by
  have hq : scnt D.length < 65536 := by unfold scnt; omega
  have h0 := h.s0
  rw [save_go (by omega) (by omega) hD]
  obtain ⟨c, c1, c10, c2, c3, c4, c5, c6, c7, c8, c9⟩ := saveL_ends (sure + 1) D (scnt D.length) ((sure + 1) % 2) (by omega) (by omega) (scnt D.length) 0 M (by omega) h.off (by rw [h.left]; omega)
  obtain rfl := c3 h.left
  have ho : All M ((sure + 1) % 2) fun x _ _ => x ≤ sure + 1 := fun j s hs => by
    obtain ⟨a, b, c, d, e, f, g, k⟩ := h.oth j s hs
    exact ⟨a, b, c, d, e, f, g, by omega⟩
  have hoth : All M ((sure + 1 + 1) % 2) fun x _ _ => x ≤ sure + 1 - 1 := fun j s hs => by
    obtain ⟨a, b, c, d, e, f, g, k⟩ := h.own j s (by rw [show sure % 2 = (sure + 1 + 1) % 2 from by omega]; exact hs)
    exact ⟨a, b, c, d, e, f, g, by omega⟩
  exact ⟨by rw [c5, if_pos rfl], Inv.saved (by omega) (by omega) hD rfl rfl ho hoth c9, Inv.saved (by omega) (by omega) hD (by rw [c6]; simp) (c7 h.left) ho hoth c9⟩
/-- Saving with so many raw writes left. -/
theorem Inv.saves_armed {M : Med} {sure : Int} {was : List UInt8} (h : Inv M sure was) {D : List UInt8} (x : Int) (hs : sure < 2147483647) (hD : D.length ≤ 1000000) :
    ((save (M.arm x) (sure + 1) D).2 = 0 ∧ x ≥ scnt D.length ∧ Inv (save (M.arm x) (sure + 1) D).1.on (sure + 1) D) ∨ ((save (M.arm x) (sure + 1) D).2 = 40 ∧ x < scnt D.length ∧ Inv (save (M.arm x) (sure + 1) D).1.on sure was) := by
  have hq : scnt D.length < 65536 := by unfold scnt; omega
  have h0 := h.s0
  rw [save_go (by omega) (by omega) hD]
  have hal : (M.arm x).left = if x > 0 then x else 0 := rfl
  obtain ⟨c, c1, c10, c2, c3, c4, c5, c6, c7, c8, c9⟩ := saveL_ends (sure + 1) D (scnt D.length) ((sure + 1) % 2) (by omega) (by omega) (scnt D.length) 0 (M.arm x) (by omega) h.off (by rw [hal]; split <;> omega)
  by_cases hc : c = scnt D.length
  · left
    have hp := scnt_pos D.length
    refine ⟨by rw [c5, if_pos hc], by rw [hal] at c10; split at c10 <;> omega, ?_⟩
    rw [hc] at c9
    exact Inv.saved (M := M.arm x) (by omega) (by omega) hD rfl rfl (fun j s hs => by
      obtain ⟨a, b, c, d, e, f, g, k⟩ := h.oth j s hs
      exact ⟨a, b, c, d, e, f, g, by omega⟩) (fun j s hs => by
      obtain ⟨a, b, c, d, e, f, g, k⟩ := h.own j s (by rw [show sure % 2 = (sure + 1 + 1) % 2 from by omega]; exact hs)
      exact ⟨a, b, c, d, e, f, g, by omega⟩) c9
  · right
    have hlt : c < scnt D.length := by omega
    have hcl := c2 hlt
    rw [hal] at hcl
    refine ⟨by rw [c5, if_neg hc], by split at hcl <;> omega, ?_⟩
    exact h.left_on hs rfl rfl hlt hD c9
/-- A snapshot of whatever number, saved into a media that holds none. -/
theorem save_new {n : Int} {D : List UInt8} (hn : 1 ≤ n) (hn' : n ≤ 2147483647) (hD : D.length ≤ 1000000) : (save Med.new n D).2 = 0 ∧ Inv (save Med.new n D).1 n D := by
  have hq : scnt D.length < 65536 := by unfold scnt; omega
  rw [save_go hn hn' hD]
  obtain ⟨c, c1, c10, c2, c3, c4, c5, c6, c7, c8, c9⟩ := saveL_ends n D (scnt D.length) (n % 2) (by omega) (by omega) (scnt D.length) 0 Med.new (by omega) rfl (by show -1 ≤ (-1 : Int); omega)
  obtain rfl := c3 rfl
  exact ⟨by rw [c5, if_pos rfl], Inv.saved hn hn' hD (by rw [c6]; simp) (c7 rfl) (fun j s hs => by cases hs) (fun j s hs => by cases hs) c9⟩
end Go.Proofs.Ytojehachhfcfaaa.SlLaw
