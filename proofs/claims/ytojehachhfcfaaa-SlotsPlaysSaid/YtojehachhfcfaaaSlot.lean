/- slots.slot, walked. -/
import Derived.Test.YtojehachhfcfaaaSlPure
import Derived.Test.YtojehachhfcfaaaBldW
import Derived.Test.YtojehachhfcfaaaShelf
import Derived.Lib.ItoaWalk
import Derived.Shelf.Strings.BuilderK
import Derived.Deep.DrawnRows
import Derived.Deep.DeepCutAuto
import Derived.Deep.RegionHeld3
import Derived.IntWalk
import Derived.Deep.RegionWith
import Derived.BigRegion
import Derived.Deep.QuietTactic
import Derived.BigQuiet
set_option linter.unusedVariables false
set_option linter.unusedSimpArgs false
namespace Go.Proofs.Ytojehachhfcfaaa.Slot
open Go.RowKit Go.Proofs.Ytojehachhfcfaaa.SumPure Go.Proofs.Ytojehachhfcfaaa.Arr Go.Proofs.Ytojehachhfcfaaa.SlSect Go.Proofs.Ytojehachhfcfaaa.Save Go.Proofs.Ytojehachhfcfaaa.SlPure Go.Proofs.YtojehachhfcfaaaW.PrintWords Go.Proofs.YtojehachhfcfaaaW.PrintLast Go.Proofs.YtojehachhfcfaaaW.PrintMore
open Go.Proofs.Ytojehachhfcfaaa.Med (IsMed read_calls)

theorem below_drewN (w : World) (m : Nat) : Below w.heap.size w (w.drewN m) := ⟨rfl, rfl, rfl, Nat.le_refl _, fun _ _ => rfl⟩
theorem drewN_below {B : Nat} {w w1 : World} (h : Below B w w1) (m : Nat) : Below B w (w1.drewN m) := ⟨h.os, h.tape, h.output, h.size, h.block⟩
theorem sM_at (s : ByteArray) (h : 8 < s.size) : sM s.data.toList = s[8].toNat := by
  unfold sM
  have h' : 8 < s.data.toList.length := by rw [size_len]; exact h
  rw [List.getD_eq_getElem?_getD, List.getElem?_eq_getElem h']
  rfl
theorem small_any (t : ByteArray) (ht : t.size ≤ 4) (W : World) : Calls Try.prog 62 #[.string t] W fun e w' => e = .returned (.int .i64 (smallL 0 t.data.toList)) ∧ Drawn0 W w' :=
  slots_small.calls 5 t _ W (small_at t ht (by omega))
theorem alloc_drewN (w : World) (o : Obj) (m : Nat) : (w.drewN m).alloc o = (w.alloc o).drewN m := rfl
theorem setCell_drewN (w : World) (a : Addr) (v : Value) (m : Nat) : (w.drewN m).setCell a v = (w.setCell a v).drewN m := rfl
attribute [local go_sem] alloc_drewN setCell_drewN
attribute [local go_sem ↓] Go.wp_at_zero Go.wp_at_succ
/-- What a sector says, laid into a new variable. -/
def AtPart (w1 : World) (l : List UInt8) (v : Value) (wx : World) : Prop := ∃ g : Nat, v = .pointer (some ⟨g, 0, none⟩) ∧ wx.heap[g]? = some (.cells #[.int .i64 (sN l), .int .i64 (sP l), .int .i64 (sQ l), .string ⟨(sD l).toArray⟩] 85 (0, 0)) ∧ w1.heap.size ≤ g ∧ Below w1.heap.size w1 wx
/-- Behind 'if i == 0 { want = p }': the variable 'want' holds a number and how many parts; the sector's own variable holds what it says. -/
structure Stage (B g : Nat) (l acc : List UInt8) (n1 q1 : Int) (w wx : World) : Prop where
  want : ∃ p1 d1, wx.heap[B + 1]? = some (.cells #[.int .i64 n1, .int .i64 p1, .int .i64 q1, .string d1] 85 (0, 0))
  part : wx.heap[g]? = some (.cells #[.int .i64 (sN l), .int .i64 (sP l), .int .i64 (sQ l), .string ⟨(sD l).toArray⟩] 85 (0, 0))
  lt : B + 1 < g
  below : Below w.heap.size w wx
  bld : Lib.IsBuilder 76 5 B B (Lib.byteCells acc) wx
theorem stage_set {w wc : World} {g : Nat} {l acc : List UInt8} {n0 p0 q0 : Int} {d0 : ByteArray} (hL : Below w.heap.size w wc) (hW : wc.heap[w.heap.size + 1]? = some (.cells #[.int .i64 n0, .int .i64 p0, .int .i64 q0, .string d0] 85 (0, 0)))
    (hB : Lib.IsBuilder 76 5 w.heap.size w.heap.size (Lib.byteCells acc) wc) (hg1 : w.heap.size + 1 < g) (hG : wc.heap[g]? = some (.cells #[.int .i64 (sN l), .int .i64 (sP l), .int .i64 (sQ l), .string ⟨(sD l).toArray⟩] 85 (0, 0))) {n1 q1 : Int} (hn : n1 = sN l) (hq : q1 = sQ l) :
    Stage w.heap.size g l acc n1 q1 w ((((wc.setCell ⟨w.heap.size + 1, 0, none⟩ (.int .i64 (sN l))).setCell ⟨w.heap.size + 1, 1, none⟩ (.int .i64 (sP l))).setCell ⟨w.heap.size + 1, 2, none⟩ (.int .i64 (sQ l))).setCell ⟨w.heap.size + 1, 3, none⟩ (.string ⟨(sD l).toArray⟩)) := by
  have ne : ∀ j, j ≠ w.heap.size + 1 → ((((wc.setCell ⟨w.heap.size + 1, 0, none⟩ (.int .i64 (sN l))).setCell ⟨w.heap.size + 1, 1, none⟩ (.int .i64 (sP l))).setCell ⟨w.heap.size + 1, 2, none⟩ (.int .i64 (sQ l))).setCell ⟨w.heap.size + 1, 3, none⟩ (.string ⟨(sD l).toArray⟩)).heap[j]? = wc.heap[j]? := fun j hj => by
    rw [Med.heap_set_ne hj, Med.heap_set_ne hj, Med.heap_set_ne hj, Med.heap_set_ne hj]
  refine ⟨⟨sP l, ⟨(sD l).toArray⟩, ?_⟩, (ne g (by omega)).trans hG, hg1, ?_, ?_⟩
  · rw [Med.heap_set (Med.heap_set (Med.heap_set (Med.heap_set hW 0 _) 1 _) 2 _) 3 _, hn, hq]
    rfl
  · exact (((hL.setCell (by simp) _).setCell (by simp) _).setCell (by simp) _).setCell (by simp) _
  · refine BldS.is_keeps hB fun j cs T fr hj hT => ?_
    rw [ne j (fun e => ?_)]
    · exact hj
    · rw [e, hW] at hj
      cases hj
      rcases hT with h | h <;> cases h
theorem notOk {c : Prop} [Decidable c] {l : List UInt8} {i : Nat} {n1 q1 : Int} {X : Option (Int × Int × List UInt8)} (h : ¬okSec l i n1 q1) : (if c then (if okSec l i n1 q1 then X else none) else none) = none := by
  rw [if_neg h]; split <;> rfl
theorem atPart_mk {w1 : World} {l : List UInt8} {a b c : Int} {d : ByteArray} (ha : a = sN l) (hb : b = sP l) (hc : c = sQ l) (hd : d = ⟨(sD l).toArray⟩) (k : Nat) : AtPart w1 l (.pointer (some ⟨w1.heap.size, 0, none⟩)) ((w1.alloc (.cells #[.int .i64 a, .int .i64 b, .int .i64 c, .string d] 85)).drewN k) := by
  subst ha hb hc hd
  exact ⟨_, rfl, heap_alloc_new w1 _, Nat.le_refl _, drewN_below ((Below.refl _ w1).alloc (Nat.le_refl _) _) k⟩
theorem run_index_string8 (s : ByteArray) (h : 8 < s.size) (W : World) : (Instr.index 9 (.string s) (.int .i64 8)).run Try.prog W = .ok (.int .u8 (s[8].toNat : Int)) W := by
  have h0 : (8 : Int) < s.size := by omega
  go_simp
theorem M_read_size {w : World} {own : Nat → Prop} {b : Nat} {M : Med.Med} {n : Nat} (h : IsMed w own b M n) {f i : Int} {s : ByteArray} (hr : M.read f i = (s, 0)) : s.size = 64 := by
  obtain ⟨g, F, r, _⟩ := h
  unfold Med.Med.read at hr
  split at hr
  · split at hr
    · rename_i s' hs
      simp at hr
      rw [← hr]
      exact r.str _ _ _ hs
    · simp at hr
  · rename_i h0
    exact absurd (congrArg Prod.snd hr) h0
set_option maxHeartbeats 16000000 in
set_option maxRecDepth 100000 in
theorem slot_calls {w : World} {own : Nat → Prop} {b : Nat} {M : Med.Med} {n : Nat} (h : IsMed w own b M n) (file : Int) :
    Calls Try.prog 51 #[.pointer (some ⟨b, 0, none⟩), .int .i64 file] w fun e w' => e = .returned (.tuple #[.int .i64 (slotP M file).1, .string ⟨(slotP M file).2.1.toArray⟩, .bool (slotP M file).2.2]) ∧ Below w.heap.size w w' := by
  have H := Aside0.mk h
  clear h
  obtain ⟨R, hR⟩ : ∃ R, R = slotL M file 70000 0 0 0 [] := ⟨_, rfl⟩
  obtain ⟨P, hP⟩ : ∃ P, P = slotP M file := ⟨_, rfl⟩
  rw [← hP]
  unfold slotP at hP
  rw [← hR] at hP
  have HR := Aside0.mk hR
  have HP := Aside0.mk hP
  clear hR hP
  go_enter Try.func51, Try.ntmps51
  go_wp2
  go_loopw [9] (fun v9 wr => ∃ (i : Nat) (n0 p0 q0 : Int) (d0 : ByteArray) (acc : List UInt8), i ≤ 65536 ∧ q0 ≤ 65535 ∧ acc.length ≤ 53 * i ∧ v9 = .int .i64 i ∧ Aside0 (Lib.IsBuilder 76 5 w.heap.size w.heap.size (Lib.byteCells acc) wr) ∧ Aside0 (wr.heap[w.heap.size + 1]? = some (.cells #[.int .i64 n0, .int .i64 p0, .int .i64 q0, .string d0] 85 (0, 0))) ∧ Aside0 (Below w.heap.size w wr) ∧ Aside0 (R = slotL M file (70000 - i) i n0 q0 acc)) (fun v9 _ => 65537 - (intOf v9).toNat)
  case atStart =>
    refine ⟨0, 0, 0, 0, ⟨#[]⟩, [], by omega, by omega, by simp, rfl, ⟨BldS.is_below (Lib.fresh_isBuilder 76 5 w) ((Below.refl _ _).alloc (Nat.le_refl _) _)⟩, ⟨?_⟩, ⟨((Below.refl _ w).alloc (Nat.le_refl _) _).alloc (by simp) _⟩, ⟨HR.out⟩⟩
    rw [show w.heap.size + 1 = (w.alloc (.cells #[.pointer none, .slice none 0 0] 76)).heap.size from by simp]
    exact heap_alloc_new _ _
  case round =>
    obtain ⟨i, n0, p0, q0, d0, acc, hi, hq0, hacc, rfl, HB, HW, HL, HRi⟩ := hrel
    have cw0 : wr.cell? ⟨w.heap.size + 1, 0, none⟩ = some (.int .i64 n0) := by have := HW.out; simp [World.cell?, this]
    have cw2 : wr.cell? ⟨w.heap.size + 1, 2, none⟩ = some (.int .i64 q0) := by have := HW.out; simp [World.cell?, this]
    by_cases hgo : i = 0 ∨ (i : Int) < q0
    · have hrd := read_calls (H.out.below HL.out) file i
      obtain ⟨s, e1, hr⟩ : ∃ s e1, M.read file i = (s, e1) := ⟨_, _, rfl⟩
      rw [hr] at hrd
      have HRi2 : Aside0 (R = if e1 = 0 ∧ sM s.data.toList ≤ 53 then (if okSec s.data.toList i (if i = 0 then sN s.data.toList else n0) (if i = 0 then sQ s.data.toList else q0) then slotL M file (70000 - (i + 1)) (i + 1) (if i = 0 then sN s.data.toList else n0) (if i = 0 then sQ s.data.toList else q0) (acc ++ sD s.data.toList) else none) else none) := ⟨by
        rw [HRi.out, show 70000 - i = (69999 - i) + 1 from by omega, slotL, if_pos hgo, hr, show 69999 - i = 70000 - (i + 1) from by omega]⟩
      have HR' := Aside0.mk hr
      clear HRi hr
      have HNO : Aside0 (R = none → P = (0, [], false)) := ⟨fun h => by rw [HP.out, h]⟩
      go_upto_region 4 with (fail)
      go_cut [22] (fun s22 wx => s22 = .bool true ∧ wx = wr)
      case first =>
        rcases Decidable.em (i = 0) with hi0 | hi0
        · subst hi0
          go_wp2
          go_meet
          exact ⟨rfl, rfl⟩
        · have hiq : (i : Int) < q0 := by omega
          have hib : ((i : Int) == 0) = false := by simp; omega
          go_wp2
          go_meet
          exact ⟨rfl, rfl⟩
      case rest =>
      obtain ⟨rfl, rfl⟩ := hcut
      have HGO := Aside0.mk hgo
      clear hgo
      by_cases h1 : e1 = 0
      · subst h1
        have h64 : s.size = 64 := M_read_size H.out HR'.out
        have s8 : 8 < s.size := by omega
        have s0 : (8 : Int) < s.size := by omega
        obtain ⟨c, hc⟩ : ∃ c : UInt8, s[8] = c := ⟨_, rfl⟩
        have hix : ∀ W : World, (Instr.index 9 (.string s) (.int .i64 8)).run Try.prog W = .ok (.int .u8 (c.toNat : Int)) W := fun W => by
          rw [← hc]
          exact run_index_string8 s s8 W
        have hM : sM s.data.toList = c.toNat := by rw [sM_at s s8, hc]
        have hcl := c.toNat_lt
        have w8 : wrap64 (c.toNat : Int) = (c.toNat : Int) := wrap_id (by omega) (by omega)
        have H64 := Aside0.mk h64
        have HM := Aside0.mk hM
        clear h64 hc hM
        by_cases hm : c.toNat ≤ 53
        · have hm' : (c.toNat : Int) ≤ 53 := by omega
          go_upto_region 9 with (first | (go_at_call 50; refine hrd.mono ?_; rintro e w' ⟨rfl, m1, rfl⟩))
          go_name_world w1 hw1
          have HL1 : Aside0 (Below w.heap.size w w1) := ⟨by rw [← hw1]; exact drewN_below HL.out m1⟩
          have HW1 : Aside0 (w1.heap[w.heap.size + 1]? = some (.cells #[.int .i64 n0, .int .i64 p0, .int .i64 q0, .string d0] 85 (0, 0))) := ⟨by rw [← hw1]; exact HW.out⟩
          have HB1 : Aside0 (Lib.IsBuilder 76 5 w.heap.size w.heap.size (Lib.byteCells acc) w1) := ⟨by rw [← hw1]; exact BldS.is_below HB.out (below_drewN _ _)⟩
          clear hw1 hrd HL HW HB cw0 cw2
          go_cut [12] (fun s12 wx => AtPart w1 s.data.toList s12 wx)
          case first =>
            have hsz : (62 : Int) ≤ s.size := by have := H64.out; omega
            have hs4 : (4 : Int) ≤ s.size := by omega
            have hs6 : (6 : Int) ≤ s.size := by omega
            have hs8 : (8 : Int) ≤ s.size := by omega
            have hn4 : 4 ≤ s.size := by omega
            have hn6 : 6 ≤ s.size := by omega
            have hn8 : 8 ≤ s.size := by omega
            have hs9 : 9 + (c.toNat : Int) ≤ s.size := by omega
            have hn9 : 9 + c.toNat ≤ s.size := by omega
            have hs90 : (0 : Int) ≤ (c.toNat : Int) := by omega
            have hs99 : (9 : Int) ≤ 9 + (c.toNat : Int) := by omega
            have hs9n : (9 + (c.toNat : Int)).toNat = 9 + c.toNat := by omega
            have hs9p : (0 : Int) ≤ 9 + (c.toNat : Int) := by omega
            have w8b : IntKind.i64.wrap (c.toNat : Int) = (c.toNat : Int) := IntWalk.i64_in _ ⟨by omega, by omega⟩
            have w9 : IntKind.i64.wrap (9 + (c.toNat : Int)) = 9 + (c.toNat : Int) := IntWalk.i64_in _ ⟨by omega, by omega⟩
            have HX : Aside0 (s.extract 9 (9 + c.toNat) = ⟨(sD s.data.toList).toArray⟩) := ⟨by rw [extract_mid, Nat.add_sub_cancel_left]; unfold sD; rw [HM.out]⟩
            go_region_held3 (fun w' => (Instr.index 9 (.string s) (.int .i64 8)).run Try.prog w' = .ok (.int .u8 (c.toNat : Int)) w') (exact hix _) (first | (go_at_call_of 62 (s.extract 0 4); refine (small_any (s.extract 0 4) (by simp; omega) _).mono ?_; rintro e w' ⟨rfl, ⟨⟨m2, rfl⟩⟩⟩) | (go_at_call_of 62 (s.extract 4 6); refine (small_any (s.extract 4 6) (by simp; omega) _).mono ?_; rintro e w' ⟨rfl, ⟨⟨m3, rfl⟩⟩⟩) | (go_at_call_of 62 (s.extract 6 8); refine (small_any (s.extract 6 8) (by simp; omega) _).mono ?_; rintro e w' ⟨rfl, ⟨⟨m4, rfl⟩⟩⟩))
            all_goals
              go_wp2
              go_meet
              exact atPart_mk rfl rfl rfl HX.out _
          case rest =>
            obtain ⟨g, rfl, hg, hgl, hgb⟩ := hcut
            have HL2 : Aside0 (Below w.heap.size w wc) := ⟨HL1.out.trans (hgb.mono HL1.out.size)⟩
            have HW2 : Aside0 (wc.heap[w.heap.size + 1]? = some (.cells #[.int .i64 n0, .int .i64 p0, .int .i64 q0, .string d0] 85 (0, 0))) := ⟨(hgb.block _ (Array.getElem?_eq_some_iff.1 HW1.out).1).trans HW1.out⟩
            have HB2 : Aside0 (Lib.IsBuilder 76 5 w.heap.size w.heap.size (Lib.byteCells acc) wc) := ⟨BldS.is_below HB1.out hgb⟩
            have hg1 : w.heap.size + 1 < g := by have := (Array.getElem?_eq_some_iff.1 HW1.out).1; omega
            have HG := Aside0.mk hg
            clear hg hgb HL1 HW1 HB1 hgl
            go_upto_if 57 with (fail)
            go_cut [] (fun wx => Stage w.heap.size g s.data.toList acc (if i = 0 then sN s.data.toList else n0) (if i = 0 then sQ s.data.toList else q0) w wx)
            case first =>
              rcases Decidable.em (i = 0) with hi0 | hi0
              · subst hi0
                have cg0 : wc.cell? ⟨g, 0, none⟩ = some (.int .i64 (sN s.data.toList)) := by have := HG.out; simp [World.cell?, this]
                have cg1 : wc.cell? ⟨g, 1, none⟩ = some (.int .i64 (sP s.data.toList)) := by have := HG.out; simp [World.cell?, this]
                have cg2 : wc.cell? ⟨g, 2, none⟩ = some (.int .i64 (sQ s.data.toList)) := by have := HG.out; simp [World.cell?, this]
                have cg3 : wc.cell? ⟨g, 3, none⟩ = some (.string ⟨(sD s.data.toList).toArray⟩) := by have := HG.out; simp [World.cell?, this]
                have cw0 : wc.cell? ⟨w.heap.size + 1, 0, none⟩ = some (.int .i64 n0) := by have := HW2.out; simp [World.cell?, this]
                have cw1 : wc.cell? ⟨w.heap.size + 1, 1, none⟩ = some (.int .i64 p0) := by have := HW2.out; simp [World.cell?, this]
                have cw2 : wc.cell? ⟨w.heap.size + 1, 2, none⟩ = some (.int .i64 q0) := by have := HW2.out; simp [World.cell?, this]
                have cw3 : wc.cell? ⟨w.heap.size + 1, 3, none⟩ = some (.string d0) := by have := HW2.out; simp [World.cell?, this]
                have cf : ∀ o, wc.frozen? ⟨w.heap.size + 1, o, none⟩ = false := fun o => by have := HW2.out; simp [World.frozen?, this]
                go_wp2
                go_meet
                exact stage_set HL2.out HW2.out HB2.out hg1 HG.out (by simp) (by simp)
              · have hib : ((i : Int) == 0) = false := by simp; omega
                go_wp2
                go_meet
                exact ⟨⟨p0, d0, by rw [if_neg hi0, if_neg hi0]; exact HW2.out⟩, HG.out, hg1, HL2.out, HB2.out⟩
            case rest =>
              have HST := Aside0.mk hcut
              have HMM : Aside0 (sM s.data.toList ≤ 53) := ⟨by rw [HM.out]; exact hm⟩
              clear hcut HL2 HW2 HB2 HG HM
              obtain ⟨n1, hn1⟩ : ∃ n1, n1 = (if i = 0 then sN s.data.toList else n0) := ⟨_, rfl⟩
              obtain ⟨q1, hq1⟩ : ∃ q1, q1 = (if i = 0 then sQ s.data.toList else q0) := ⟨_, rfl⟩
              rw [← hn1, ← hq1] at HST HRi2
              have HN1 := Aside0.mk hn1
              have HQ1 := Aside0.mk hq1
              clear hn1 hq1
              obtain ⟨p1, d1, hw1⟩ := HST.out.want
              have cg0 : wc.cell? ⟨g, 0, none⟩ = some (.int .i64 (sN s.data.toList)) := by have := HST.out.part; simp [World.cell?, this]
              have cg1 : wc.cell? ⟨g, 1, none⟩ = some (.int .i64 (sP s.data.toList)) := by have := HST.out.part; simp [World.cell?, this]
              have cg2 : wc.cell? ⟨g, 2, none⟩ = some (.int .i64 (sQ s.data.toList)) := by have := HST.out.part; simp [World.cell?, this]
              have cg3 : wc.cell? ⟨g, 3, none⟩ = some (.string ⟨(sD s.data.toList).toArray⟩) := by have := HST.out.part; simp [World.cell?, this]
              have cw0 : wc.cell? ⟨w.heap.size + 1, 0, none⟩ = some (.int .i64 n1) := by simp [World.cell?, hw1]
              have cw2 : wc.cell? ⟨w.heap.size + 1, 2, none⟩ = some (.int .i64 q1) := by simp [World.cell?, hw1]
              have hQr := sQ_range s.data.toList
              obtain ⟨D, hdl⟩ : ∃ D : ByteArray, (⟨(sD s.data.toList).toArray⟩ : ByteArray) = D := ⟨_, rfl⟩
              have hD : D.size ≤ 53 := by rw [← hdl, size_mk]; unfold sD; rw [List.length_take]; have := HMM.out; omega
              have hD' : (D.size : Int) ≤ 53 := by omega
              obtain ⟨nl, hnl⟩ : ∃ dl, sN s.data.toList = dl := ⟨_, rfl⟩
              obtain ⟨pl, hpl⟩ : ∃ dl, sP s.data.toList = dl := ⟨_, rfl⟩
              obtain ⟨ql, hql⟩ : ∃ dl, sQ s.data.toList = dl := ⟨_, rfl⟩
              rw [hdl] at cg3
              rw [hnl] at cg0
              rw [hpl] at cg1
              rw [hql] at cg2 hQr
              have HE : Aside0 (sD s.data.toList = D.data.toList ∧ sN s.data.toList = nl ∧ sP s.data.toList = pl ∧ sQ s.data.toList = ql) := ⟨⟨by rw [← hdl], hnl, hpl, hql⟩⟩
              clear hdl hnl hpl hql hw1
              go_upto_region 12 with (fail)
              go_cut [13] (fun s13 wx => ∃ lb : Bool, s13 = .bool lb ∧ Aside0 (lb = decide ((i : Int) = ql - 1)) ∧ wx = wc)
              case first =>
                go_wp2
                go_meet
                exact ⟨_, rfl, ⟨by rw [Bool.eq_iff_iff]; simp⟩, rfl⟩
              case rest =>
              obtain ⟨lb, rfl, HLB, rfl⟩ := hcut
              go_upto_region 13 with (fail)
              go_cut [14] (fun s14 wx => s14 = .bool (decide (D.size = 53 ∨ (i : Int) = ql - 1 ∧ (D.size ≠ 0 ∨ i = 0))) ∧ wx = wc)
              case first =>
                rcases Decidable.em (D.size = 53) with hf | hf
                · have hb : ((D.size : Int) == 53) = true := by simp; omega
                  have HF := Aside0.mk hf
                  clear hf
                  go_wp2
                  go_meet
                  exact ⟨congrArg Value.bool (by simp [HF.out]), rfl⟩
                · have hb : ((D.size : Int) == 53) = false := by simp; omega
                  cases lb with
                  | true =>
                    have HF : Aside0 ((i : Int) = ql - 1) := ⟨of_decide_eq_true HLB.out.symm⟩
                    rcases Decidable.em (D.data.toList = []) with he | he
                    · have he1 : D.toList = [] := (toList_nil D).2 he
                      have HZ : Aside0 (D.size = 0) := ⟨by rw [← size_len, he]; rfl⟩
                      clear he
                      rcases Decidable.em (i = 0) with hi0 | hi0
                      · subst hi0
                        go_wp2
                        go_meet
                        exact ⟨congrArg Value.bool (by have h1 := HZ.out; have h2 := HF.out; simp only [h1]; simp; omega), rfl⟩
                      · have hib : ((i : Int) == 0) = false := by simp; omega
                        go_wp2
                        go_meet
                        exact ⟨congrArg Value.bool (by simp [HZ.out, hi0]), rfl⟩
                    · have he1 : ¬(D.toList = []) := fun h => he ((toList_nil D).1 h)
                      have he2 : (!D.toList.isEmpty) = true := by simp [he1]
                      have HZ : Aside0 (D.size ≠ 0) := ⟨fun h => he (List.eq_nil_of_length_eq_zero (by rw [size_len]; exact h))⟩
                      clear he
                      go_wp2
                      go_meet
                      exact ⟨congrArg Value.bool (by have h1 := HZ.out; have h2 := HF.out; symm; exact decide_eq_true (.inr ⟨h2, .inl h1⟩)), rfl⟩
                  | false =>
                    have HF : Aside0 (¬((i : Int) = ql - 1)) := ⟨of_decide_eq_false HLB.out.symm⟩
                    go_wp2
                    go_meet
                    exact ⟨congrArg Value.bool (by have h2 := HF.out; simp [hf, h2]), rfl⟩
              case rest =>
              obtain ⟨rfl, rfl⟩ := hcut
              clear HLB
              obtain ⟨fb, hfb⟩ : ∃ fb : Bool, fb = decide (D.size = 53 ∨ (i : Int) = ql - 1 ∧ (D.size ≠ 0 ∨ i = 0)) := ⟨_, rfl⟩
              rw [← hfb]
              have HFB := Aside0.mk hfb
              clear hfb
              have hsec : ∀ W, Calls Try.prog 49 #[.agg #[.int .i64 nl, .int .i64 pl, .int .i64 ql, .string D]] W fun e w' => e = .returned (.string ⟨(sect nl pl ql D.data.toList).toArray⟩) ∧ Below W.heap.size W w' := fun W => sector_any nl pl ql D W hD
              obtain ⟨S1, hS1⟩ : ∃ S1 : ByteArray, (⟨(sect nl pl ql D.data.toList).toArray⟩ : ByteArray) = S1 := ⟨_, rfl⟩
              rw [hS1] at hsec
              have HS1 := Aside0.mk hS1
              clear hS1
              have hgl : g < wc.heap.size := (Array.getElem?_eq_some_iff.1 HST.out.part).1
              have hwl : w.heap.size + 1 < wc.heap.size := by have := HST.out.lt; omega
              rcases Decidable.em (S1 = s) with hs1 | hs1
              · subst hs1
                rcases Decidable.em (nl = n1) with h2 | h2
                · subst h2
                  rcases Decidable.em (ql = q1) with h3 | h3
                  · subst h3
                    rcases Decidable.em (pl = (i : Int)) with h4 | h4
                    · subst h4
                      cases fb with
                      | true =>
                        go_upto_region 16 with (go_at_call 49; refine (hsec _).mono ?_; rintro e wS ⟨rfl, hb⟩; have dg0 := (hb.cell (p := ⟨g, 0, none⟩) hgl).trans cg0; have dg1 := (hb.cell (p := ⟨g, 1, none⟩) hgl).trans cg1; have dg2 := (hb.cell (p := ⟨g, 2, none⟩) hgl).trans cg2; have dg3 := (hb.cell (p := ⟨g, 3, none⟩) hgl).trans cg3; have dw0 := (hb.cell (p := ⟨w.heap.size + 1, 0, none⟩) hwl).trans cw0; have dw2 := (hb.cell (p := ⟨w.heap.size + 1, 2, none⟩) hwl).trans cw2; have HBS := Aside0.mk hb; clear hb)
                        have hw9 := BldS.writeStringK w.heap.size w.heap.size (Lib.byteCells acc) D wS (BldS.is_below HST.out.bld HBS.out) (by rw [BldS.cells_len]; omega) (by have := HST.out.below.size; have := HBS.out.size; omega)
                        go_wp2_with (go_at_call 46; refine hw9.mono ?_; rintro e wT ⟨rfl, hT1, hT2, hT3⟩; have HT := Aside0.mk (And.intro hT1 (And.intro hT2 hT3)); clear hT1 hT2 hT3)
                        clear hw9
                        have hlen : (acc ++ sD S1.data.toList).length ≤ 53 * (i + 1) := by rw [List.length_append, HE.out.1, size_len]; omega
                        obtain ⟨p1, d1, hwant⟩ := HST.out.want
                        go_roundw
                        case rel =>
                          refine ⟨i + 1, nl, p1, ql, d1, acc ++ sD S1.data.toList, ?_, by omega, hlen, by go_num, ⟨.inr ?_⟩, ⟨?_⟩, ⟨?_⟩, ⟨?_⟩⟩
                          · rcases HGO.out with h | h <;> omega
                          · have h1 := HT.out.1
                            rw [BldS.cells_str, ← BldS.cells_app, ← HE.out.1] at h1
                            exact h1
                          · exact HT.out.2.2 _ _ (HBS.out.block _ hwl ▸ hwant) (by omega) (fun cs fr h => by cases h)
                          · exact HST.out.below.trans ((HBS.out.mono HST.out.below.size).trans HT.out.2.1)
                          · rw [HRi2.out, if_pos ⟨trivial, HMM.out⟩, if_pos]
                            have e := HE.out
                            refine ⟨by rw [e.1, e.2.1, e.2.2.1, e.2.2.2]; have := HS1.out; rw [← this], e.2.1, e.2.2.2, e.2.2.1, ?_⟩
                            rw [e.1, e.2.2.2, size_len]
                            rcases of_decide_eq_true HFB.out.symm with f | ⟨f, f'⟩
                            · exact .inl f
                            · exact .inr ⟨f, f'.imp (fun k z => k (by rw [← size_len, z]; rfl)) id⟩
                        case measure => simp [intOf]; omega
                      | false =>
                        go_wp2_with (go_at_call 49; refine (hsec _).mono ?_; rintro e wS ⟨rfl, hb⟩; have dg0 := (hb.cell (p := ⟨g, 0, none⟩) hgl).trans cg0; have dg1 := (hb.cell (p := ⟨g, 1, none⟩) hgl).trans cg1; have dg2 := (hb.cell (p := ⟨g, 2, none⟩) hgl).trans cg2; have dg3 := (hb.cell (p := ⟨g, 3, none⟩) hgl).trans cg3; have dw0 := (hb.cell (p := ⟨w.heap.size + 1, 0, none⟩) hwl).trans cw0; have dw2 := (hb.cell (p := ⟨w.heap.size + 1, 2, none⟩) hwl).trans cw2; have HBS := Aside0.mk hb; clear hb)
                        go_ret3
                        have e : P = (0, [], false) := HNO.out (by rw [HRi2.out]; exact notOk (fun h => of_decide_eq_false HFB.out.symm (by have e := HE.out; have f := h.2.2.2.2; rw [e.1, e.2.2.2, size_len] at f; rcases f with f | ⟨f, f'⟩; exact .inl f; exact .inr ⟨f, f'.imp (fun k => fun z => k (List.eq_nil_of_length_eq_zero (by rw [size_len]; exact z))) id⟩)))
                        subst e
                        exact ⟨rfl, HST.out.below.trans (HBS.out.mono HST.out.below.size)⟩
                    · have h4b : (pl != (i : Int)) = true := by simp [h4]
                      have h4c : (pl == (i : Int)) = false := by simp [h4]
                      go_wp2_with (go_at_call 49; refine (hsec _).mono ?_; rintro e wS ⟨rfl, hb⟩; have dg0 := (hb.cell (p := ⟨g, 0, none⟩) hgl).trans cg0; have dg1 := (hb.cell (p := ⟨g, 1, none⟩) hgl).trans cg1; have dg2 := (hb.cell (p := ⟨g, 2, none⟩) hgl).trans cg2; have dg3 := (hb.cell (p := ⟨g, 3, none⟩) hgl).trans cg3; have dw0 := (hb.cell (p := ⟨w.heap.size + 1, 0, none⟩) hwl).trans cw0; have dw2 := (hb.cell (p := ⟨w.heap.size + 1, 2, none⟩) hwl).trans cw2; have HBS := Aside0.mk hb; clear hb)
                      go_ret3
                      have e : P = (0, [], false) := HNO.out (by rw [HRi2.out]; exact notOk (fun h => h4 (by rw [← HE.out.2.2.1]; exact h.2.2.2.1)))
                      subst e
                      exact ⟨rfl, HST.out.below.trans (HBS.out.mono HST.out.below.size)⟩
                  · have h3b : (ql != q1) = true := by simp [h3]
                    have h3c : (ql == q1) = false := by simp [h3]
                    go_wp2_with (go_at_call 49; refine (hsec _).mono ?_; rintro e wS ⟨rfl, hb⟩; have dg0 := (hb.cell (p := ⟨g, 0, none⟩) hgl).trans cg0; have dg1 := (hb.cell (p := ⟨g, 1, none⟩) hgl).trans cg1; have dg2 := (hb.cell (p := ⟨g, 2, none⟩) hgl).trans cg2; have dg3 := (hb.cell (p := ⟨g, 3, none⟩) hgl).trans cg3; have dw0 := (hb.cell (p := ⟨w.heap.size + 1, 0, none⟩) hwl).trans cw0; have dw2 := (hb.cell (p := ⟨w.heap.size + 1, 2, none⟩) hwl).trans cw2; have HBS := Aside0.mk hb; clear hb)
                    go_ret3
                    have e : P = (0, [], false) := HNO.out (by rw [HRi2.out]; exact notOk (fun h => h3 (by rw [← HE.out.2.2.2]; exact h.2.2.1)))
                    subst e
                    exact ⟨rfl, HST.out.below.trans (HBS.out.mono HST.out.below.size)⟩
                · have h2b : (nl != n1) = true := by simp [h2]
                  have h2c : (nl == n1) = false := by simp [h2]
                  go_wp2_with (go_at_call 49; refine (hsec _).mono ?_; rintro e wS ⟨rfl, hb⟩; have dg0 := (hb.cell (p := ⟨g, 0, none⟩) hgl).trans cg0; have dg1 := (hb.cell (p := ⟨g, 1, none⟩) hgl).trans cg1; have dg2 := (hb.cell (p := ⟨g, 2, none⟩) hgl).trans cg2; have dg3 := (hb.cell (p := ⟨g, 3, none⟩) hgl).trans cg3; have dw0 := (hb.cell (p := ⟨w.heap.size + 1, 0, none⟩) hwl).trans cw0; have dw2 := (hb.cell (p := ⟨w.heap.size + 1, 2, none⟩) hwl).trans cw2; have HBS := Aside0.mk hb; clear hb)
                  go_ret3
                  have e : P = (0, [], false) := HNO.out (by rw [HRi2.out]; exact notOk (fun h => h2 (by rw [← HE.out.2.1]; exact h.2.1)))
                  subst e
                  exact ⟨rfl, HST.out.below.trans (HBS.out.mono HST.out.below.size)⟩
              · have hsb : (S1.toList == s.toList) = false := by rw [beq_eq_false_iff_ne]; exact fun h => hs1 (ba_ext (by rw [← ByteArray.toList_eq, ← ByteArray.toList_eq]; exact h))
                have H1 := Aside0.mk hs1
                clear hs1
                go_wp2_with (go_at_call 49; refine (hsec _).mono ?_; rintro e wS ⟨rfl, hb⟩; have dg0 := (hb.cell (p := ⟨g, 0, none⟩) hgl).trans cg0; have dg1 := (hb.cell (p := ⟨g, 1, none⟩) hgl).trans cg1; have dg2 := (hb.cell (p := ⟨g, 2, none⟩) hgl).trans cg2; have dg3 := (hb.cell (p := ⟨g, 3, none⟩) hgl).trans cg3; have dw0 := (hb.cell (p := ⟨w.heap.size + 1, 0, none⟩) hwl).trans cw0; have dw2 := (hb.cell (p := ⟨w.heap.size + 1, 2, none⟩) hwl).trans cw2; have HBS := Aside0.mk hb; clear hb)
                go_ret3
                have e : P = (0, [], false) := HNO.out (by rw [HRi2.out]; exact notOk (fun h => H1.out (by rw [← HS1.out]; have e := HE.out; have f := h.1; rw [e.1, e.2.1, e.2.2.1, e.2.2.2] at f; rw [f, ba_eta])))
                subst e
                exact ⟨rfl, HST.out.below.trans (HBS.out.mono HST.out.below.size)⟩
        · have hm' : (c.toNat : Int) > 53 := by omega
          go_wp2_with (first | (go_at_call 50; refine hrd.mono ?_; rintro e w' ⟨rfl, m1, rfl⟩))
          go_ret3
          have e : P = (0, [], false) := HNO.out (by rw [HRi2.out, if_neg (fun h => by have := h.2; rw [HM.out] at this; omega)])
          subst e
          exact ⟨rfl, drewN_below HL.out m1⟩
      · go_wp2_with (first | (go_at_call 50; refine hrd.mono ?_; rintro e w' ⟨rfl, m1, rfl⟩))
        go_ret3
        have e : P = (0, [], false) := HNO.out (by rw [HRi2.out, if_neg (fun h => h1 h.1)])
        subst e
        exact ⟨rfl, drewN_below HL.out m1⟩
    · have hi0 : ¬(i = 0) := fun h => hgo (.inl h)
      have hiq : ¬((i : Int) < q0) := fun h => hgo (.inr h)
      have HRe : Aside0 (R = some (n0, q0, acc)) := ⟨by
        rw [HRi.out, show 70000 - i = (69999 - i) + 1 from by omega, slotL, if_neg hgo]⟩
      clear hgo HRi
      have HPe : Aside0 (P = if n0 < 1 ∨ n0 > 2147483647 ∨ Int.tmod n0 2 ≠ file ∨ q0 < 1 ∨ acc.length > 1000000 then (0, [], false) else (n0, acc, true)) := ⟨by rw [HP.out, HRe.out]⟩
      have hbl : (Lib.byteCells acc).length = acc.length := by rw [Lib.byteCells_length]
      have hlenC := Try.Builder_Len w.heap.size w.heap.size (Lib.byteCells acc) wr HB.out
      rw [hbl] at hlenC
      clear hbl HP HRe HR
      by_cases h1 : n0 < 1
      · go_wp2
        go_ret3
        have e : P = (0, [], false) := by rw [HPe.out, if_pos (by omega)]
        subst e
        exact ⟨rfl, HL.out⟩
      by_cases h2 : n0 > 2147483647
      · go_wp2
        go_ret3
        have e : P = (0, [], false) := by rw [HPe.out, if_pos (by omega)]
        subst e
        exact ⟨rfl, HL.out⟩
      have ht : Int.tmod n0 2 = n0 % 2 := Int.tmod_eq_emod_of_nonneg (by omega)
      rw [ht] at HPe
      clear ht
      rcases Decidable.em (¬(n0 % 2 = file)) with h3 | h3
      · go_wp2
        go_ret3
        have e : P = (0, [], false) := by rw [HPe.out, if_pos (by omega)]
        subst e
        exact ⟨rfl, HL.out⟩
      have h3 := Decidable.not_not.1 h3
      by_cases h4 : q0 < 1
      · go_wp2
        go_ret3
        have e : P = (0, [], false) := by rw [HPe.out, if_pos (by omega)]
        subst e
        exact ⟨rfl, HL.out⟩
      by_cases h5 : (acc.length : Int) > 1000000
      · go_wp2_with (go_at_call 63; refine hlenC.mono ?_; rintro e w' ⟨rfl, rfl⟩)
        go_ret3
        have e : P = (0, [], false) := by rw [HPe.out, if_pos (by omega)]
        subst e
        exact ⟨rfl, HL.out⟩
      have hstr : ∀ W, Calls Try.prog 47 #[.pointer (some ⟨w.heap.size, 0, none⟩)] (wr.drewN W) fun e w' => e = .returned (.string ⟨acc.toArray⟩) ∧ Below w.heap.size w w' ∧ w'.cell? ⟨w.heap.size + 1, 0, none⟩ = some (.int .i64 n0) := fun W => by
        have hF : Lib.IsBuilderF 76 5 w.heap.size w.heap.size (Lib.byteCells acc) wr := Lib.IsBuilderF.of HB.out
        refine (Any.Builder_String_any_k Try.lays169 Try.Builder_Extra_169 w.heap.size w.heap.size acc (wr.drewN W) (BldS.isF_below hF (below_drewN _ _)) (by have := HL.out.size; simpa using this)).mono ?_
        rintro e w' ⟨rfl, _, hb, hk⟩
        refine ⟨rfl, (drewN_below HL.out W).trans hb, ?_⟩
        have hw := hk (w.heap.size + 1) _ HW.out (by simp) (fun c fz e => by cases e)
        simp [World.cell?, hw]
      go_upto_region 19 with (go_at_call 63; refine hlenC.mono ?_; rintro e w' ⟨rfl, rfl⟩)
      go_region_held3 (fun w' => w'.cell? ⟨w.heap.size + 1, 0, none⟩ = some (.int .i64 n0)) (first | assumption | go_keep) (first | (go_at_call 47; refine (hstr 1).mono ?_; rintro e wS ⟨rfl, hbS, hcS⟩; have HBS := Aside0.mk hbS; clear hbS))
      all_goals
        go_wp2
        go_ret3
        have e : P = (n0, acc, true) := by rw [HPe.out, if_neg (by omega)]
        subst e
        exact ⟨rfl, HBS.out⟩
end Go.Proofs.Ytojehachhfcfaaa.Slot
