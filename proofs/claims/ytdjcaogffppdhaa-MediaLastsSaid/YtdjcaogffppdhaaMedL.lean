/- What stands on a media, against what was written last: the plain law of MediaLasts. -/
import Derived.Test.YtdjcaogffppdhaaMedP
set_option linter.unusedVariables false
set_option linter.unusedSimpArgs false
namespace Go.Proofs.Ytdjcaogffppdhaa.MedL
open Go.RowKit Go.Proofs.Ytdjcaogffppdhaa.Med
open Go.Proofs.Ytdjcaogffppdhaa.Med (Med)
theorem spend_S (M : Med) : M.spend.1.S = M.S := by unfold Med.spend; split <;> rfl
theorem write_S (M : Med) (f i : Int) (s : ByteArray) : ((M.write f i s).2 = 0 ∧ ∀ g j, (M.write f i s).1.S g j = if g = f ∧ j = i then some s else M.S g j) ∨ ((M.write f i s).2 ≠ 0 ∧ (M.write f i s).1.S = M.S) := by
  unfold Med.write
  split
  · split
    · left
      refine ⟨rfl, fun g j => ?_⟩
      show (if g = f ∧ j = i then some s else M.spend.1.S g j) = _
      rw [spend_S]
    · rename_i h
      exact .inr ⟨h, spend_S M⟩
  · rename_i h
    exact .inr ⟨h, rfl⟩
theorem remove_S (M : Med) (f : Int) : ((M.remove f).2 = 0 ∧ ∀ g j, (M.remove f).1.S g j = if g = f then none else M.S g j) ∨ ((M.remove f).2 ≠ 0 ∧ (M.remove f).1.S = M.S) := by
  unfold Med.remove
  split
  · split
    · left
      refine ⟨rfl, fun g j => ?_⟩
      show (if g = f then none else M.spend.1.S g j) = _
      rw [spend_S]
    · rename_i h
      exact .inr ⟨h, spend_S M⟩
  · rename_i h
    exact .inr ⟨h, rfl⟩
theorem ranged_remove {M : Med} (h : Ranged M) (f : Int) : Ranged (M.remove f).1 := by
  rcases remove_S M f with ⟨_, e⟩ | ⟨_, e⟩
  · intro g j t ht
    rw [e] at ht
    split at ht
    · cases ht
    · exact h g j t ht
  · intro g j t ht
    rw [e] at ht
    exact h g j t ht
/-- W is what was written last (its places are among at_'s), and stands on the media. -/
structure Lasts (at_ : Nat → Int) (len : Nat) (M : Med) (W : Int → Int → Option ByteArray) : Prop where
  S : ∀ f a, M.S f a = W f a
  at' : ∀ f a s, W f a = some s → ∃ k, k < len ∧ at_ k = a
  rg : Ranged M
theorem Lasts.new (at_ : Nat → Int) (len : Nat) : Lasts at_ len Med.new (fun _ _ => none) := ⟨fun _ _ => rfl, fun _ _ _ h => (by cases h), Ranged.new⟩
theorem Lasts.arm {at_ : Nat → Int} {len : Nat} {M : Med} {W : Int → Int → Option ByteArray} (h : Lasts at_ len M W) (x : Int) : Lasts at_ len (M.arm x) W := ⟨h.S, h.at', h.rg.arm x⟩
theorem Lasts.on {at_ : Nat → Int} {len : Nat} {M : Med} {W : Int → Int → Option ByteArray} (h : Lasts at_ len M W) : Lasts at_ len M.on W := ⟨h.S, h.at', h.rg.on⟩
theorem Lasts.wrote {at_ : Nat → Int} {len : Nat} {M : Med} {W : Int → Int → Option ByteArray} (h : Lasts at_ len M W) {f i : Int} {s : ByteArray} (h0 : (M.write f i s).2 = 0) {k : Nat} (hk : k < len) (hi : at_ k = i) :
    Lasts at_ len (M.write f i s).1 (fun g j => if g = f ∧ j = i then some s else W g j) := by
  rcases write_S M f i s with ⟨_, e⟩ | ⟨e, _⟩
  · refine ⟨fun g j => by rw [e, h.S], fun g j t ht => ?_, h.rg.write f i s⟩
    by_cases hc : g = f ∧ j = i
    · exact ⟨k, hk, by rw [hi, hc.2]⟩
    · simp only [hc, if_false] at ht; exact h.at' g j t ht
  · exact absurd h0 e
theorem Lasts.not_wrote {at_ : Nat → Int} {len : Nat} {M : Med} {W : Int → Int → Option ByteArray} (h : Lasts at_ len M W) {f i : Int} {s : ByteArray} (h0 : (M.write f i s).2 ≠ 0) : Lasts at_ len (M.write f i s).1 W := by
  rcases write_S M f i s with ⟨e, _⟩ | ⟨_, e⟩
  · exact absurd e h0
  · exact ⟨fun g j => by rw [e, h.S], h.at', h.rg.write f i s⟩
theorem Lasts.not_removed {at_ : Nat → Int} {len : Nat} {M : Med} {W : Int → Int → Option ByteArray} (h : Lasts at_ len M W) {f : Int} (h0 : (M.remove f).2 ≠ 0) : Lasts at_ len (M.remove f).1 W := by
  rcases remove_S M f with ⟨e, _⟩ | ⟨_, e⟩
  · exact absurd e h0
  · exact ⟨fun g j => by rw [e, h.S], h.at', ranged_remove h.rg f⟩
open Classical in
/-- The first k places of a file are forgotten. -/
noncomputable def delW (at_ : Nat → Int) (f : Int) (k : Nat) (W : Int → Int → Option ByteArray) (g c : Int) : Option ByteArray := if g = f ∧ ∃ j, j < k ∧ at_ j = c then none else W g c
theorem delW_zero (at_ : Nat → Int) (f : Int) (W : Int → Int → Option ByteArray) : delW at_ f 0 W = W := by
  funext g c
  unfold delW
  rw [if_neg (fun h => by obtain ⟨j, hj, _⟩ := h.2; omega)]
theorem delW_succ (at_ : Nat → Int) (f : Int) (k : Nat) (W : Int → Int → Option ByteArray) : (fun g c => if g = f ∧ c = at_ k then none else delW at_ f k W g c) = delW at_ f (k + 1) W := by
  funext g c
  unfold delW
  by_cases h1 : g = f ∧ c = at_ k
  · rw [if_pos h1, if_pos ⟨h1.1, k, by omega, h1.2.symm⟩]
  · rw [if_neg h1]
    by_cases h2 : g = f ∧ ∃ j, j < k ∧ at_ j = c
    · obtain ⟨a, j, b, e⟩ := h2
      rw [if_pos ⟨a, j, b, e⟩, if_pos ⟨a, j, by omega, e⟩]
    · rw [if_neg h2, if_neg]
      rintro ⟨a, j, b, e⟩
      by_cases hj : j = k
      · exact h1 ⟨a, by rw [← e, hj]⟩
      · exact h2 ⟨a, j, by omega, e⟩
theorem Lasts.removed {at_ : Nat → Int} {len : Nat} {M : Med} {W : Int → Int → Option ByteArray} (h : Lasts at_ len M W) {f : Int} (h0 : (M.remove f).2 = 0) : Lasts at_ len (M.remove f).1 (delW at_ f len W) := by
  rcases remove_S M f with ⟨_, e⟩ | ⟨e, _⟩
  · refine ⟨fun g j => ?_, fun g j t ht => ?_, ranged_remove h.rg f⟩
    · rw [e]
      unfold delW
      by_cases hg : g = f
      · rw [if_pos hg]
        split
        · rfl
        · rename_i hc
          cases hW : W g j with
          | none => rfl
          | some t =>
            obtain ⟨k, hk, ek⟩ := h.at' g j t hW
            exact absurd ⟨hg, k, hk, ek⟩ hc
      · rw [if_neg hg, if_neg (fun k => hg k.1), h.S]
    · unfold delW at ht
      split at ht
      · cases ht
      · exact h.at' g j t ht
  · exact absurd h0 e
/-- What a look at a place answers behind On. -/
theorem Lasts.read {at_ : Nat → Int} {len : Nat} {M : Med} {W : Int → Int → Option ByteArray} (h : Lasts at_ len M W) (hoff : M.off = false) (f a : Int) :
    (∃ s, W f a = some s ∧ M.read f a = (s, 0)) ∨ (W f a = none ∧ (M.read f a = (⟨#[]⟩, 41) ∨ M.read f a = (⟨#[]⟩, 42))) := by
  have hr : M.ready f a 64 = if f < 0 ∨ f ≥ 1048576 ∨ a < 0 ∨ a ≥ 65536 ∨ (64 : Int) ≠ 64 then 42 else 0 := by unfold Med.ready; rw [hoff]; rfl
  cases hW : W f a with
  | some s =>
    left
    refine ⟨s, rfl, ?_⟩
    have hS : M.S f a = some s := (h.S f a).trans hW
    obtain ⟨a1, a2, a3, a4⟩ := h.rg f a s hS
    have e : M.ready f a 64 = 0 := by rw [hr, if_neg (by omega)]
    unfold Med.read
    rw [e, if_pos rfl, hS]
  | none =>
    right
    refine ⟨rfl, ?_⟩
    have hS : M.S f a = none := (h.S f a).trans hW
    by_cases hc : f < 0 ∨ f ≥ 1048576 ∨ a < 0 ∨ a ≥ 65536 ∨ (64 : Int) ≠ 64
    · have e : M.ready f a 64 = 42 := by rw [hr, if_pos hc]
      unfold Med.read
      rw [e, if_neg (by decide)]; exact .inr rfl
    · have e : M.ready f a 64 = 0 := by rw [hr, if_neg hc]
      unfold Med.read
      rw [e, if_pos rfl, hS]; exact .inl rfl
end Go.Proofs.Ytdjcaogffppdhaa.MedL
