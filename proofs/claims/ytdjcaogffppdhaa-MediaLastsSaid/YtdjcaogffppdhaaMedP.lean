/- What the media does, in plain words: the chapter's example; one write behind the other. -/
import Derived.Test.YtdjcaogffppdhaaMedX
set_option linter.unusedVariables false
set_option linter.unusedSimpArgs false
namespace Go.Proofs.Ytdjcaogffppdhaa.MedP
open Go.RowKit Go.Proofs.Ytdjcaogffppdhaa.Med
open Go.Proofs.Ytdjcaogffppdhaa.Med (Med)
/-- The chapter's example: what each call answers, and what there is at its end. -/
structure Example (s : ByteArray) (M1 M2 : Med) : Prop where
  a : (Med.new.arm 1).write 2 0 s = (M1, 0)
  b : M1.write 2 1 s = (M2, 40)
  c : M2.read 2 0 = (⟨#[]⟩, 40)
  d : M2.on.read 2 0 = (s, 0)
  e : M2.on.read 2 1 = (⟨#[]⟩, 41)
  f : IsFiles M2.on [2]
  g : ∀ r, IsSize M2.on 2 r → r = 1
  w : M2.on.writes = 1
  fd : Filed M2.on
  rg : Ranged M2.on
theorem example_is (s : ByteArray) (hs : s.size = 64) : ∃ M1 M2, Example s M1 M2 := by
  have e1 : (Med.new.arm 1).write 2 0 s = (⟨fun f i => if f = 2 ∧ i = 0 then some s else none, fun f => if f = 2 then true else false, 0, false, 1⟩, 0) := by
    simp [Med.write, Med.ready, Med.spend, Med.arm, Med.new, Med.made, Med.put, hs]
  obtain ⟨M1, hM1⟩ : ∃ M1, M1 = ((Med.new.arm 1).write 2 0 s).1 := ⟨_, rfl⟩
  obtain ⟨M2, hM2⟩ : ∃ M2, M2 = (M1.write 2 1 s).1 := ⟨_, rfl⟩
  have f1 : Filed M1 := by rw [hM1]; exact (Filed.new.arm 1).write 2 0 s
  have r1 : Ranged M1 := by rw [hM1]; exact (Ranged.new.arm 1).write 2 0 s
  have f2 : Filed M2 := by rw [hM2]; exact f1.write 2 1 s
  have r2 : Ranged M2 := by rw [hM2]; exact r1.write 2 1 s
  rw [e1] at hM1
  simp only [] at hM1
  have e2 : M1.write 2 1 s = (⟨fun f i => if f = 2 ∧ i = 0 then some s else none, fun f => if f = 2 then true else false, 0, true, 1⟩, 40) := by
    rw [hM1]; simp [Med.write, Med.ready, Med.spend, hs]
  rw [e2] at hM2
  simp only [] at hM2
  refine ⟨M1, M2, by rw [e1, hM1], by rw [e2, hM2], by rw [hM2]; simp [Med.read, Med.ready], by rw [hM2]; simp [Med.read, Med.ready, Med.on], by rw [hM2]; simp [Med.read, Med.ready, Med.on], ⟨by simp, fun f => ?_⟩, fun r hr => ?_, by rw [hM2]; rfl, f2.on, r2.on⟩
  · rw [hM2]; by_cases h : f = 2 <;> simp [Med.on, h]
  · have h1 := hr.up 0 s (by rw [hM2]; simp [Med.on])
    rcases hr.at_ with h2 | ⟨t, h2⟩
    · omega
    · rw [hM2] at h2
      by_cases h3 : r - 1 = 0
      · omega
      · simp [Med.on, h3] at h2
theorem IsSize.same {M : Med} {f r r' : Int} (h : IsSize M f r) (h' : IsSize M f r') : r = r' := by
  have key : ∀ {r r' : Int}, IsSize M f r → IsSize M f r' → r ≤ r' := fun {r r'} h h' => by
    rcases h.at_ with e | ⟨s, e⟩
    · have := h'.lo; omega
    · have := h'.up _ s e; omega
  have := key h h'
  have := key h' h
  omega
/-- i writes one behind the other, a of them with power. -/
structure Cut (M : Med) (a : Int) (i : Int) : Prop where
  a0 : 0 ≤ a
  left : M.left = a - (if i < a then i else a)
  off : M.off = decide (a < i)
  writes : M.writes = if i < a then i else a
  S : ∀ j, (M.S 5 j).isSome = true ↔ 0 ≤ j ∧ j < (if i < a then i else a)
  rg : Ranged M
theorem Cut.start {a : Int} (ha : 0 ≤ a) : Cut (Med.new.arm a) a 0 := by
  refine ⟨ha, ?_, ?_, ?_, fun j => ?_, Ranged.new.arm a⟩
  · show (if a > 0 then a else 0) = _; split <;> (try split) <;> omega
  · show false = _; simp; omega
  · show (0 : Int) = _; split <;> omega
  · show (none : Option ByteArray).isSome = true ↔ _
    simp; split <;> omega
theorem Cut.step {M : Med} {a i : Int} (h : Cut M a i) (h0 : 0 ≤ i) (h1 : i < 100) {s : ByteArray} (hs : s.size = 64) : (M.write 5 i s).2 = (if i < a then 0 else 40) ∧ Cut (M.write 5 i s).1 a (i + 1) := by
  have rg := h.rg.write 5 i s
  have e1 := h.left
  have e2 := h.off
  have e3 := h.writes
  have e0 := h.a0
  by_cases hlt : i < a
  · rw [if_pos hlt] at e1 e3
    have ho : M.off = false := by rw [e2]; simp; omega
    have hr : M.ready 5 i s.size = 0 := by unfold Med.ready; rw [ho, hs]; simp; omega
    have hsp : M.spend = ({ M with left := M.left - 1, writes := M.writes + 1 }, 0) := by unfold Med.spend; rw [if_neg (by omega), if_pos (by omega)]
    have e : M.write 5 i s = (({ M with left := M.left - 1, writes := M.writes + 1 } : Med).made 5 |>.put 5 i s, 0) := by unfold Med.write; rw [if_pos hr, hsp]; simp
    rw [e] at rg ⊢
    rw [if_pos hlt]
    refine ⟨rfl, e0, ?_, ?_, ?_, fun j => ?_, rg⟩
    · show M.left - 1 = _; split <;> omega
    · show M.off = _; rw [ho]; symm; simp; omega
    · show M.writes + 1 = _; split <;> omega
    · show (if 5 = 5 ∧ j = i then some s else M.S 5 j).isSome = true ↔ _
      have hj := h.S j
      rw [if_pos hlt] at hj
      by_cases hc : j = i
      · rw [if_pos ⟨rfl, hc⟩]; simp; split <;> omega
      · rw [if_neg (fun k => hc k.2), hj]; split <;> omega
  · rw [if_neg hlt] at e1 e3
    have hS := h.S
    rw [if_neg hlt] at hS
    by_cases hia : i = a
    · have ho : M.off = false := by rw [e2]; simp; omega
      have hr : M.ready 5 i s.size = 0 := by unfold Med.ready; rw [ho, hs]; simp; omega
      have hsp : M.spend = ({ M with off := true }, 40) := by unfold Med.spend; rw [if_pos (by omega)]
      have e : M.write 5 i s = ({ M with off := true }, 40) := by unfold Med.write; rw [if_pos hr, hsp]; simp
      rw [e] at rg ⊢
      rw [if_neg hlt]
      refine ⟨rfl, e0, ?_, ?_, ?_, fun j => ?_, rg⟩
      · show M.left = _; rw [if_neg (by omega)]; exact e1
      · show true = _; simp; omega
      · show M.writes = _; rw [if_neg (by omega)]; exact e3
      · show (M.S 5 j).isSome = true ↔ _; rw [if_neg (by omega)]; exact hS j
    · have ho : M.off = true := by rw [e2]; simp; omega
      have hr : M.ready 5 i s.size = 40 := by unfold Med.ready; rw [ho]; rfl
      have e : M.write 5 i s = (M, 40) := by unfold Med.write; rw [hr]; simp
      rw [e] at rg ⊢
      rw [if_neg hlt]
      refine ⟨rfl, e0, ?_, ?_, ?_, fun j => ?_, rg⟩
      · rw [if_neg (by omega)]; exact e1
      · rw [ho]; symm; simp; omega
      · rw [if_neg (by omega)]; exact e3
      · rw [if_neg (by omega)]; exact hS j
theorem Cut.size {M : Med} {a i r : Int} (h : Cut M a i) (hi : 0 ≤ i) (hr : IsSize M 5 r) : r = if i < a then i else a := by
  have e0 := h.a0
  obtain ⟨m, hm⟩ : ∃ m, m = (if i < a then i else a) := ⟨_, rfl⟩
  have hS := h.S
  rw [← hm] at hS ⊢
  have hm0 : 0 ≤ m := by rw [hm]; split <;> omega
  have h1 : r ≤ m := by
    rcases hr.at_ with e | ⟨s, e⟩
    · omega
    · have := (hS (r - 1)).1 (by rw [e]; rfl); omega
  have h2 : m ≤ r := by
    rcases Int.lt_or_le 0 m with hlt | hle
    · obtain ⟨s, e⟩ := Option.isSome_iff_exists.1 ((hS (m - 1)).2 (by omega))
      have := hr.up _ s e; omega
    · have := hr.lo; omega
  omega
end Go.Proofs.Ytdjcaogffppdhaa.MedP
