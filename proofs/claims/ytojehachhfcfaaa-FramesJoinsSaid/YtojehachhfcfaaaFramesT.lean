/- What the document's Tell and Join answer: what the program's do. -/
import Derived.Test.YtojehachhfcfaaaFramesB
import Derived.Test.YtojehachhfcfaaaPrint2
set_option linter.unusedVariables false
set_option linter.unusedSimpArgs false
namespace Go.Proofs.Ytojehachhfcfaaa.FramesPure
open Go.RowKit Go.Proofs.Ytojehachhfcfaaa.SumPure Go.Proofs.Ytojehachhfcfaaa.Arr Go.Proofs.Ytojehachhfcfaaa.Sect Go.Proofs.Ytojehachhfcfaaa.Print Go.Proofs.YtojehachhfcfaaaW.PrintWords Go.Proofs.YtojehachhfcfaaaW.PrintLast Go.Proofs.YtojehachhfcfaaaW.PrintMore

/-- Behind the document's tests of a sector. -/
theorem RTell_j0 (a0 a1 a2 a3 a4 a5 a6 : UInt8) (r : List UInt8) (hr : r.length = 57) (bad : Bool) (hb : bad = true ↔ ¬okPart (num4 a0 a1 a2 a3) a4.toNat a5.toNat a6.toNat) {k : Nat} (hk : 140 ≤ k) :
    stevedoreref04_Tell.j0 k ⟨⟨a0 :: a1 :: a2 :: a3 :: a4 :: a5 :: a6 :: r⟩⟩ (a6.toNat : Int) bad (num4 a0 a1 a2 a3) a4.toNat a5.toNat ⟨#[]⟩ = some (tellT (tellP (a0 :: a1 :: a2 :: a3 :: a4 :: a5 :: a6 :: r))) := by
  obtain ⟨k, rfl⟩ : ∃ m, k = m + 1 := ⟨k - 1, by omega⟩
  have t6 := a6.toNat_lt
  rw [tellP_eq]
  simp only [stevedoreref04_Tell.j0]
  by_cases hok : okPart (num4 a0 a1 a2 a3) a4.toNat a5.toNat a6.toNat
  · have hbf : bad = false := by
      cases hbb : bad
      · rfl
      · exact absurd hok (hb.1 hbb)
    have h55 := hok.2.2.2.2.2.2.1
    have hS' : ByteArray.size (⟨⟨a0 :: a1 :: a2 :: a3 :: a4 :: a5 :: a6 :: r⟩⟩ : ByteArray) = 64 := by show (a0 :: a1 :: a2 :: a3 :: a4 :: a5 :: a6 :: r).length = 64; simp [hr]
    rw [hbf, if_neg (by decide), wrap_id (x := 7 + (a6.toNat : Int)) (by omega) (by omega), if_pos (by omega), hS', if_pos (by omega)]
    have e1 : ByteArray.extract (⟨⟨a0 :: a1 :: a2 :: a3 :: a4 :: a5 :: a6 :: r⟩⟩ : ByteArray) 7 (7 + (a6.toNat : Int)).toNat = ⟨(r.take a6.toNat).toArray⟩ := by
      rw [extract_mid, show (7 + (a6.toNat : Int)).toNat - 7 = a6.toNat from by omega]; rfl
    have hl : (r.take a6.toNat).length = a6.toNat := by rw [List.length_take]; omega
    have h1 := hok.1
    have h2 := hok.2.1
    rw [e1, RSec_at _ _ _ _ (by omega) (by omega) (by rw [size_mk, hl]; omega) (by omega), Option.bind_some]
    by_cases hs : sect (num4 a0 a1 a2 a3) a4.toNat a5.toNat (r.take a6.toNat) = a0 :: a1 :: a2 :: a3 :: a4 :: a5 :: a6 :: r
    · rw [if_pos (by simp only [ByteArray.toList_eq]; exact hs), if_pos ⟨hr, hok, hs⟩]; rfl
    · rw [if_neg (by simp only [ByteArray.toList_eq]; exact hs), if_neg (fun h => hs h.2.2)]; rfl
  · rw [if_pos (hb.2 hok), if_neg (fun h => hok h.2.1)]; rfl

theorem RTell_at (s : ByteArray) {k : Nat} (hk : 140 ≤ k) : stevedoreref04_Tell.f k s = some (tellT (tellP s.data.toList)) := by
  obtain ⟨⟨l⟩⟩ := s
  have hsz : ByteArray.size ⟨⟨l⟩⟩ = l.length := rfl
  unfold stevedoreref04_Tell.f
  rw [hsz]
  rcases Decidable.em (l.length ≠ 64) with h64 | h64
  · rw [if_neg (by omega)]
    show _ = some (tellT (tellP l))
    rw [tellP_long h64]; rfl
  have h64 : l.length = 64 := Decidable.not_not.1 h64
  obtain ⟨a0, a1, a2, a3, a4, a5, a6, r, rfl⟩ : ∃ a0 a1 a2 a3 a4 a5 a6 r, l = a0 :: a1 :: a2 :: a3 :: a4 :: a5 :: a6 :: r := by
    match l, h64 with
    | a0 :: a1 :: a2 :: a3 :: a4 :: a5 :: a6 :: r, _ => exact ⟨a0, a1, a2, a3, a4, a5, a6, r, rfl⟩
  have hr : r.length = 57 := by simpa using h64
  have b0 : bt (⟨⟨a0 :: a1 :: a2 :: a3 :: a4 :: a5 :: a6 :: r⟩⟩ : ByteArray) 0 = (a0.toNat : Int) := bt_lit _ 0 a0 rfl
  have b1 : bt (⟨⟨a0 :: a1 :: a2 :: a3 :: a4 :: a5 :: a6 :: r⟩⟩ : ByteArray) 1 = (a1.toNat : Int) := bt_lit _ 1 a1 rfl
  have b2 : bt (⟨⟨a0 :: a1 :: a2 :: a3 :: a4 :: a5 :: a6 :: r⟩⟩ : ByteArray) 2 = (a2.toNat : Int) := bt_lit _ 2 a2 rfl
  have b3 : bt (⟨⟨a0 :: a1 :: a2 :: a3 :: a4 :: a5 :: a6 :: r⟩⟩ : ByteArray) 3 = (a3.toNat : Int) := bt_lit _ 3 a3 rfl
  have b4 : bt (⟨⟨a0 :: a1 :: a2 :: a3 :: a4 :: a5 :: a6 :: r⟩⟩ : ByteArray) 4 = (a4.toNat : Int) := bt_lit _ 4 a4 rfl
  have b5 : bt (⟨⟨a0 :: a1 :: a2 :: a3 :: a4 :: a5 :: a6 :: r⟩⟩ : ByteArray) 5 = (a5.toNat : Int) := bt_lit _ 5 a5 rfl
  have b6 : bt (⟨⟨a0 :: a1 :: a2 :: a3 :: a4 :: a5 :: a6 :: r⟩⟩ : ByteArray) 6 = (a6.toNat : Int) := bt_lit _ 6 a6 rfl
  have t0 := a0.toNat_lt
  have t1 := a1.toNat_lt
  have t2 := a2.toNat_lt
  have t3 := a3.toNat_lt
  have t4 := a4.toNat_lt
  have t5 := a5.toNat_lt
  have t6 := a6.toNat_lt
  rw [h64, b0, b1, b2, b3, b4, b5, b6]
  have eN : wrap64 ((wrap64 ((wrap64 ((wrap64 ((wrap64 (a0.toNat : Int)) * 16777216)) + (wrap64 ((wrap64 (a1.toNat : Int)) * 65536)))) + (wrap64 ((wrap64 (a2.toNat : Int)) * 256)))) + (wrap64 (a3.toNat : Int))) = num4 a0 a1 a2 a3 := by
    unfold num4
    rw [wrap_id (x := (a0.toNat : Int)) (by omega) (by omega), wrap_id (x := (a1.toNat : Int)) (by omega) (by omega), wrap_id (x := (a2.toNat : Int)) (by omega) (by omega), wrap_id (x := (a3.toNat : Int)) (by omega) (by omega)]
    rw [wrap_id (x := (a0.toNat : Int) * 16777216) (by omega) (by omega), wrap_id (x := (a1.toNat : Int) * 65536) (by omega) (by omega), wrap_id (x := (a2.toNat : Int) * 256) (by omega) (by omega)]
    rw [wrap_id (x := (a0.toNat : Int) * 16777216 + (a1.toNat : Int) * 65536) (by omega) (by omega), wrap_id (x := (a0.toNat : Int) * 16777216 + (a1.toNat : Int) * 65536 + (a2.toNat : Int) * 256) (by omega) (by omega), wrap_id (by omega) (by omega)]
  rw [eN, wrap_id (x := (a4.toNat : Int)) (by omega) (by omega), wrap_id (x := (a5.toNat : Int)) (by omega) (by omega), wrap_id (x := (a6.toNat : Int)) (by omega) (by omega), wrap_id (x := (a5.toNat : Int) - 1) (by omega) (by omega)]
  have hN0 : 0 ≤ num4 a0 a1 a2 a3 := by unfold num4; omega
  have J := fun bad hb => RTell_j0 a0 a1 a2 a3 a4 a5 a6 r hr bad hb hk
  show _ = some (tellT (tellP (a0 :: a1 :: a2 :: a3 :: a4 :: a5 :: a6 :: r)))
  generalize num4 a0 a1 a2 a3 = N at *
  rw [if_pos (by rfl), if_pos (by decide), if_pos (by decide), if_pos (by decide), if_pos (by decide), if_pos (by decide), if_pos (by decide), if_pos (by decide)]
  by_cases c1 : N < 1
  · rw [if_pos c1]; exact J true ⟨fun _ => by unfold okPart; omega, fun _ => rfl⟩
  by_cases c2 : N > 2147483647
  · rw [if_neg c1, if_pos c2]; exact J true ⟨fun _ => by unfold okPart; omega, fun _ => rfl⟩
  by_cases c3 : (a5.toNat : Int) < 1
  · rw [if_neg c1, if_neg c2, if_pos c3]; exact J true ⟨fun _ => by unfold okPart; omega, fun _ => rfl⟩
  by_cases c4 : (a5.toNat : Int) > 8
  · rw [if_neg c1, if_neg c2, if_neg c3, if_pos c4]; exact J true ⟨fun _ => by unfold okPart; omega, fun _ => rfl⟩
  by_cases c5 : (a4.toNat : Int) ≥ (a5.toNat : Int)
  · rw [if_neg c1, if_neg c2, if_neg c3, if_neg c4, if_pos c5]; exact J true ⟨fun _ => by unfold okPart; omega, fun _ => rfl⟩
  by_cases c6 : (a6.toNat : Int) > 55
  · rw [if_neg c1, if_neg c2, if_neg c3, if_neg c4, if_neg c5, if_pos c6]; exact J true ⟨fun _ => by unfold okPart; omega, fun _ => rfl⟩
  rw [if_neg c1, if_neg c2, if_neg c3, if_neg c4, if_neg c5, if_neg c6]
  by_cases c7 : (a4.toNat : Int) = (a5.toNat : Int) - 1
  · rw [if_pos c7, if_pos c7]
    by_cases c8 : (a6.toNat : Int) = 0
    · rw [if_pos c8]
      refine J _ ⟨fun h => ?_, fun h => ?_⟩
      · rw [decide_eq_true_eq] at h; unfold okPart; omega
      · rw [decide_eq_true_eq]; unfold okPart at h; omega
    · rw [if_neg c8]
      exact J false ⟨fun h => by simp at h, fun h => absurd (by unfold okPart; omega) h⟩
  · rw [if_neg c7]
    by_cases c8 : (a6.toNat : Int) = 55
    · rw [if_pos c8, if_neg c7]
      exact J false ⟨fun h => by simp at h, fun h => absurd (by unfold okPart; omega) h⟩
    · rw [if_neg c8]; exact J true ⟨fun _ => by unfold okPart; omega, fun _ => rfl⟩
end Go.Proofs.Ytojehachhfcfaaa.FramesPure
