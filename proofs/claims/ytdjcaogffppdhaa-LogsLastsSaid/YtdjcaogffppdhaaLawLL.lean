/- Of one claim's parts: LogL, LogN, LawLLasts. -/
import Derived.Test.YtdjcaogffppdhaaLogLaw
import Derived.Test.YtdjcaogffppdhaaArgs
import Derived.Test.YtdjcaogffppdhaaArgsS
import Derived.Lib.ItoaWalk
import Derived.Deep.RegionHeld3
import Derived.Deep.RegionWith
import Derived.Deep.DrawnRows
import Derived.Deep.QuietTactic
import Derived.BigQuiet
import Derived.Deep.DeepCutAuto
import Derived.Deep.CutBlock
set_option linter.unusedVariables false
set_option linter.unusedSimpArgs false
namespace Go.Proofs.Ytdjcaogffppdhaa.Log
open Go.RowKit Go.ChangeMaps Go.Proofs.Ytdjcaogffppdhaa.IMap Go.Proofs.Ytdjcaogffppdhaa.AtX Go.Proofs.Ytdjcaogffppdhaa.SumPure Go.Proofs.Ytdjcaogffppdhaa.Lst Go.Proofs.Ytdjcaogffppdhaa.LogZ
open Go.Proofs.Ytdjcaogffppdhaa.Med (IsMed Med Ranged IsSize IsFiles Filed)
open Go.Proofs.Ytdjcaogffppdhaa.FramesPure
open Go.Proofs.YtdjcaogffppdhaaW.PrintWords Go.Proofs.YtdjcaogffppdhaaW.PrintLast Go.Proofs.YtdjcaogffppdhaaW.PrintMore
section
variable {w0 w : World} {X : Nat → Prop} {bm bl g n : Nat} {M : Med} {L : Lg} {ps : List Pc}
theorem Now.append_any (h : Now Front w0 X bm bl g M L ps n w) (hn : n ≤ 10000000000000) (hx : L.next ≤ 1000000) (D : List UInt8) (hD : D.length ≤ 440) :
    Calls Try.prog 32 #[.pointer (some ⟨bl, 0, none⟩), .string ⟨D.toArray⟩] w fun e w' =>
      (∃ M' L' p, e = .returned (.tuple #[.int .i64 L.next, .int .i64 0]) ∧ Now Front w0 X bm bl g M' L' (ps ++ [p]) (n + 30) w' ∧ (M.left < 0 → M'.left < 0) ∧ L'.next = L.next + 1 ∧ p.n = L.next ∧ p.d = D ∧ Same X w w') ∨
      (∃ M' z, e = .returned (.tuple #[.int .i64 z, .int .i64 40]) ∧ ¬M.left < 0 ∧ AtX w0 X bm M' (n + 30) w' ∧ Inv Front M' L ps ∧ Same X w w') := by
  obtain ⟨b1, b2, b3, b4, b5⟩ := h.bounds hx
  have hs : ByteArray.size ⟨D.toArray⟩ = D.length := size_mk D
  refine (append_calls h.at_ hn ⟨D.toArray⟩ (by rw [hs]; omega) ⟨b1, b2⟩ ⟨b3, b4⟩ ⟨b5, by omega⟩).mono ?_
  rintro e w' ⟨rfl, ha, hs⟩
  rcases h.inv.append hD h.off hx (.inr fun _ k => k) with ⟨o1, o2, o3, o4, o5, p, p1, p2, p3, p4⟩ | ⟨o1, o2, o3⟩
  · exact .inl ⟨_, _, p, by rw [o1, o2], ⟨ha, p4, o3⟩, o4, o5, p1, p2, hs⟩
  · exact .inr ⟨_, _, by rw [o1], o2, ha.med.narrow _ fun i hi => .inl hi, o3, hs⟩
theorem Now.append_err (h : Now Front w0 X bm bl g M L ps n w) (hn : n ≤ 10000000000000) (hx : L.next ≤ 1000000) (D : List UInt8) (hD : ¬D.length ≤ 440) (hD2 : D.length ≤ 1000) :
    Calls Try.prog 32 #[.pointer (some ⟨bl, 0, none⟩), .string ⟨D.toArray⟩] w fun e w' => e = .returned (.tuple #[.int .i64 0, .int .i64 43]) ∧ Now Front w0 X bm bl g M L ps (n + 30) w' ∧ Same X w w' := by
  obtain ⟨b1, b2, b3, b4, b5⟩ := h.bounds hx
  have hs : ByteArray.size ⟨D.toArray⟩ = D.length := size_mk D
  refine (append_calls h.at_ hn ⟨D.toArray⟩ (by rw [hs]; omega) ⟨b1, b2⟩ ⟨b3, b4⟩ ⟨b5, by omega⟩).mono ?_
  have e : appendL M L D = (M, L, 0, 43) := by
    have el : layP L.next D = ([], 43) := by unfold layP; rw [if_neg fun k => hD k.2.2]
    unfold appendL
    rw [el]; rfl
  rintro e' w' ⟨rfl, ha, hs⟩
  rw [show (⟨D.toArray⟩ : ByteArray).data.toList = D from by simp, e] at ha ⊢
  exact ⟨rfl, ⟨ha, h.inv, h.off⟩, hs⟩
theorem Now.trim_any (h : Now Front w0 X bm bl g M L ps n w) (hn : n ≤ 10000000000000) (x : Int) :
    Calls Try.prog 34 #[.pointer (some ⟨bl, 0, none⟩), .int .i64 x] w fun e w' => ∃ M' B0 B, AtX w0 X bm M' (n + 4000000) w' ∧ Inv Front M' L B ∧ ps = B0 ++ B ∧ (B = [] → ps = []) ∧ (∀ p ∈ B0, p.n ≤ x) ∧ Same X w w' ∧
      ((e = .returned (.int .i64 0) ∧ Now Front w0 X bm bl g M' L B (n + 4000000) w' ∧ (M.left < 0 → M'.left < 0)) ∨ (e = .returned (.int .i64 40) ∧ ¬M.left < 0)) := by
  obtain ⟨l, hf⟩ := files_ex h.inv.filed
  have hle := files_le h.inv.filed hf
  have hsl : (segsOf l).length ≤ l.length := List.length_filter_le _ _
  have hm : ∀ f, f ∈ segsOf l ↔ M.has f = true ∧ 2 ≤ f := fun f => by unfold segsOf; rw [List.mem_filter, hf.mem f]; simp
  have hup : (segsOf l).Pairwise (· < ·) := hf.up.filter _
  refine (trim_calls h.at_ h.inv.filed hn hf x).mono ?_
  rintro e w' ⟨rfl, ha, hs⟩
  obtain ⟨B0, B, h1, h2, h3, h4, h5⟩ := Inv.trimmed x (segsOf l) M ps h.inv h.off hup hm
  have ha' := ha.mono (n' := n + 4000000) (by omega)
  refine ⟨_, B0, B, ha'.med.narrow _ fun i hi => .inl hi, h4, h1, h2, h3, hs, ?_⟩
  rcases h5 with ⟨o1, o2, o3, o4⟩ | ⟨o1, k⟩
  · exact .inl ⟨by rw [o1], ⟨ha', h4, o2⟩, o3⟩
  · exact .inr ⟨by rw [o1], k⟩
end
/-- What the law has noted: all's texts, what was trimmed. -/
structure Pu (L : Lg) (ps : List Pc) (al : List ByteArray) (t : Int) : Prop where
  nx : L.next = (al.length : Int) + 1
  da : ∀ p ∈ ps, al[(p.n - 1).toNat]? = some ⟨p.d.toArray⟩
  ne : ps = [] → al = []
  tr : ∀ p, ps[0]? = some p → p.n ≤ t + 1
  t0 : 0 ≤ t
theorem Pu.append {L L' : Lg} {ps : List Pc} {al : List ByteArray} {t : Int} {p : Pc} (h : Pu L ps al t) (hn : L'.next = L.next + 1) (h1 : p.n = L.next) : Pu L' (ps ++ [p]) (al ++ [⟨p.d.toArray⟩]) t := by
  have nx := h.nx
  refine ⟨by rw [List.length_append]; simp; omega, fun q hq => ?_, fun e => by simp at e, fun q hq => ?_, h.t0⟩
  · rcases List.mem_append.1 hq with hq | hq
    · have k := h.da q hq
      have hl := (List.getElem?_eq_some_iff.1 k).1
      rw [List.getElem?_append_left hl]; exact k
    · rw [List.mem_singleton.1 hq, List.getElem?_append_right (by omega), show (p.n - 1).toNat - al.length = 0 from by omega]; rfl
  · by_cases e : ps = []
    · have e2 := h.ne e
      rw [e] at hq
      obtain rfl := Option.some.inj hq
      rw [e2] at nx
      have := h.t0
      simp at nx
      omega
    · rw [List.getElem?_append_left (List.length_pos_iff.2 e)] at hq
      exact h.tr q hq
theorem Pu.trim {G : ByteArray → Prop} {M : Med} {L : Lg} {ps A B : List Pc} {al : List ByteArray} {t x : Int} (h : Pu L ps al t) (hI : Inv G M L ps) (he : ps = A ++ B) (hb : B = [] → ps = []) (hA : ∀ p ∈ A, p.n ≤ x) : Pu L B al (max t x) := by
  refine ⟨h.nx, fun p hp => h.da p (by rw [he]; exact List.mem_append_right _ hp), fun e => h.ne (hb e), fun b hb0 => ?_, by have := h.t0; omega⟩
  by_cases k : A = []
  · have := h.tr b (by rw [he, k]; exact hb0)
    omega
  · have hal : 0 < A.length := List.length_pos_iff.2 k
    have hy : A[A.length - 1]? = some A[A.length - 1] := List.getElem?_eq_getElem (by omega)
    have m := hA _ (List.mem_of_getElem? hy)
    have iy : ps[A.length - 1]? = some A[A.length - 1] := by rw [he, List.getElem?_append_left (by omega)]; exact hy
    have ib : ps[A.length - 1 + 1]? = some b := by rw [he, List.getElem?_append_right (by omega), show A.length - 1 + 1 - A.length = 0 from by omega]; exact hb0
    have := (hI.link _ _ _ iy ib).1
    omega
end Go.Proofs.Ytdjcaogffppdhaa.Log
namespace Go.Proofs.Ytdjcaogffppdhaa.Log
open Go.RowKit Go.ChangeMaps Go.Proofs.Ytdjcaogffppdhaa.IMap Go.Proofs.Ytdjcaogffppdhaa.AtX Go.Proofs.Ytdjcaogffppdhaa.SumPure Go.Proofs.Ytdjcaogffppdhaa.Lst Go.Proofs.Ytdjcaogffppdhaa.LogZ
open Go.Proofs.Ytdjcaogffppdhaa.Med (IsMed Med Ranged IsSize IsFiles Filed)
open Go.Proofs.Ytdjcaogffppdhaa.FramesPure
open Go.Proofs.YtdjcaogffppdhaaW.PrintWords Go.Proofs.YtdjcaogffppdhaaW.PrintLast Go.Proofs.YtdjcaogffppdhaaW.PrintMore
/-- The block of a row, as a set. -/
def Ob (v : Value) : Nat → Prop := fun i => v.ownBlock = some i
section
variable {G : ByteArray → Prop} {w0 w : World} {v v' : Value} {bm bl g n : Nat} {M : Med} {L : Lg} {ps : List Pc}
theorem AtX.grown {X : Nat → Prop} (h : AtX w0 X bm M n w) {w' : World} (gr : w.grownBy w' v.ownBlock) (hX : ∀ i, v.ownBlock = some i → X i) (Y : Nat → Prop) (hY : ∀ i, Y i → (X i ∨ w.heap.size ≤ i) ∧ i < w'.heap.size) (hb : ∀ i, v.ownBlock = some i → w0.heap.size ≤ i) : AtX w0 Y bm M n w' :=
  h.beside ⟨gr.os, gr.tape, gr.output, gr.size, fun i hi hn => gr.block i hi (fun e => hn (hX i e.symm))⟩ Y hY (h.below.grown gr h.below.size hb)
theorem Now.grown (h : Now G w0 (Ob v) bm bl g M L ps n w) {w' : World} (gr : w.grownBy w' v.ownBlock) (hv : ∀ i, v'.ownBlock = some i → (v.ownBlock = some i ∨ w.heap.size ≤ i) ∧ i < w'.heap.size) (hb : ∀ i, v.ownBlock = some i → w0.heap.size ≤ i) : Now G w0 (Ob v') bm bl g M L ps n w' := by
  have lb := h.at_.med.lt bl (.inr (.inl rfl))
  have lg := h.at_.med.lt g (.inr (.inr rfl))
  refine ⟨⟨AtX.grown h.at_.med gr (fun i hi => .inl hi) _ (fun i hi => ?_) hb, (gr.block bl lb fun e => h.at_.xb e.symm).trans h.at_.hL, h.at_.hg.same (gr.block g lg fun e => h.at_.xg e.symm), h.at_.lb, h.at_.lg, ?_, ?_⟩, h.inv, h.off⟩
  · rcases hi with hi | rfl | rfl
    · rcases (hv i hi).1 with k | k
      · exact ⟨.inl (.inl k), (hv i hi).2⟩
      · exact ⟨.inr k, (hv i hi).2⟩
    · exact ⟨.inl (.inr (.inl rfl)), Nat.lt_of_lt_of_le lb gr.size⟩
    · exact ⟨.inl (.inr (.inr rfl)), Nat.lt_of_lt_of_le lg gr.size⟩
  · intro e
    rcases (hv bl e).1 with k | k
    · exact h.at_.xb k
    · omega
  · intro e
    rcases (hv g e).1 with k | k
    · exact h.at_.xg k
    · omega
theorem Now.on (h : Now G w0 (Ob v) bm bl g M L ps n w) : Calls Try.prog 24 #[.pointer (some ⟨bm, 0, none⟩)] w fun e w' => e = .returned (.tuple #[]) ∧ Now G w0 (Ob v) bm bl g M.on L ps n w' ∧ Same (Ob v) w w' :=
  h.at_.on.mono fun e w' ⟨a, b, c⟩ => ⟨a, ⟨b, h.inv.on, rfl⟩, c⟩
theorem Now.arm (h : Now G w0 (Ob v) bm bl g M L ps n w) (x : Int) (hx : x ≤ 9223372036854775807) : Calls Try.prog 11 #[.pointer (some ⟨bm, 0, none⟩), .int .i64 x] w fun e w' => e = .returned (.tuple #[]) ∧ Now G w0 (Ob v) bm bl g (M.arm x) L ps n w' ∧ Same (Ob v) w w' :=
  (h.at_.arm x hx).mono fun e w' ⟨a, b, c⟩ => ⟨a, ⟨b, h.inv.arm x, h.off⟩, c⟩
theorem Now.less (h : Now G w0 (fun i => Ob v i ∨ v'.ownBlock = some i) bm bl g M L ps n w) : Now G w0 (Ob v) bm bl g M L ps n w := ⟨h.at_.narrow _ fun i hi => .inl hi, h.inv, h.off⟩
end
/-- What the frames that Open finds say. -/
structure Fs (al : List ByteArray) (t : Int) (xs : List Fr) : Prop where
  one : ∀ x, xs[0]? = some x → x.1 ≤ t + 1
  end_ : ∀ x, xs[xs.length - 1]? = some x → x.1 = al.length
  at_ : ∀ (k : Nat) x, xs[k]? = some x → 1 ≤ x.1 ∧ x.1 ≤ al.length ∧ al[(x.1 - 1).toNat]? = some x.2
  next : ∀ (k : Nat) x y, xs[k]? = some x → xs[k + 1]? = some y → y.1 = x.1 + 1
theorem Pu.fs {G : ByteArray → Prop} {M : Med} {L : Lg} {ps : List Pc} {al : List ByteArray} {t : Int} (h : Pu L ps al t) (hI : Inv G M L ps) : Fs al t (ps.map fr) := by
  have nx := h.nx
  refine ⟨fun x hx => ?_, fun x hx => ?_, fun k x hx => ?_, fun k x y hx hy => ?_⟩
  · rw [List.getElem?_map, Option.map_eq_some_iff] at hx
    obtain ⟨p, hp, rfl⟩ := hx
    exact h.tr p hp
  · rw [List.length_map, List.getElem?_map, Option.map_eq_some_iff] at hx
    obtain ⟨p, hp, rfl⟩ := hx
    have := (hI.lst p hp).2.2
    show p.n = _
    omega
  · rw [List.getElem?_map, Option.map_eq_some_iff] at hx
    obtain ⟨p, hp, rfl⟩ := hx
    have hm := List.mem_of_getElem? hp
    have h1 := (hI.good p hm).ok.1
    have h2 := (hI.below' hm).1
    exact ⟨h1, (show p.n ≤ al.length by omega), h.da p hm⟩
  · rw [List.getElem?_map, Option.map_eq_some_iff] at hx hy
    obtain ⟨p, hp, rfl⟩ := hx
    obtain ⟨q, hq, rfl⟩ := hy
    exact (hI.link k p q hp hq).1
theorem Pu.on {L L' : Lg} {ps : List Pc} {al : List ByteArray} {t : Int} (h : Pu L ps al t) (e : L'.next = L.next) : Pu L' ps al t := ⟨by rw [e]; exact h.nx, h.da, h.ne, h.tr, h.t0⟩
theorem Pu.new {L : Lg} (e : L.next = 1) : Pu L [] [] 0 := ⟨by rw [e]; rfl, fun p hp => by simp at hp, fun _ => rfl, fun p hp => by simp at hp, by decide⟩
end Go.Proofs.Ytdjcaogffppdhaa.Log
namespace Go.Proofs.Ytdjcaogffppdhaa.LogN
open Go.RowKit Go.ChangeMaps Go.Proofs.Ytdjcaogffppdhaa.IMap Go.Proofs.Ytdjcaogffppdhaa.AtX Go.Proofs.Ytdjcaogffppdhaa.SumPure Go.Proofs.Ytdjcaogffppdhaa.Lst Go.Proofs.Ytdjcaogffppdhaa.LogZ Go.Proofs.Ytdjcaogffppdhaa.Log
open Go.Proofs.Ytdjcaogffppdhaa.Med (IsMed Med Ranged IsSize IsFiles Filed)
open Go.Proofs.Ytdjcaogffppdhaa.FramesPure
open Go.Proofs.YtdjcaogffppdhaaW.PrintWords Go.Proofs.YtdjcaogffppdhaaW.PrintLast Go.Proofs.YtdjcaogffppdhaaW.PrintMore
/-- The row of all texts. -/
def All (w : World) (v : Value) (ln : Nat) (al : List ByteArray) (wr : World) : Prop := wr.ownsRow w.heap.size 9 1 v ln (al.map Value.string) ∧ al.length = ln
/-- What the law has in hand between two calls. -/
structure St (w : World) (v : Value) (ln b bl g : Nat) (M : Med) (L : Lg) (ps : List Pc) (al : List ByteArray) (t : Int) (n : Nat) (wr : World) : Prop where
  now : Now Front w (Ob v) b bl g M L ps n wr
  row : All w v ln al wr
  pu : Pu L ps al t
/-- Behind an Append that went well: the text is not yet noted. -/
structure Mid (w : World) (v : Value) (ln b bl g : Nat) (M : Med) (L : Lg) (ps : List Pc) (al : List ByteArray) (D : ByteArray) (t : Int) (n : Nat) (wr : World) : Prop where
  now : Now Front w (Ob v) b bl g M L ps n wr
  row : All w v ln al wr
  pu : Pu L ps (al ++ [D]) t
/-- Where the power may be off. -/
structure Torn (w : World) (v : Value) (ln b : Nat) (M : Med) (L : Lg) (ps : List Pc) (al : List ByteArray) (t : Int) (n : Nat) (wr : World) : Prop where
  at_ : AtX w (Ob v) b M n wr
  inv : Inv Front M L ps
  row : All w v ln al wr
  pu : Pu L ps al t
section
variable {w wr : World} {v : Value} {ln b bl g n : Nat} {M : Med} {L : Lg} {ps : List Pc} {al : List ByteArray} {t : Int}
theorem All.shape (h : All w v ln al wr) : ∃ A c, v = .slice A ln c := by
  rcases h.1.2 with ⟨rfl, h0⟩ | ⟨g, cap, cur, rfl, _⟩
  · exact ⟨none, 0, by rw [h0]⟩
  · exact ⟨_, _, rfl⟩
theorem All.same (h : All w v ln al wr) {w' : World} (hs : Same (Ob v) wr w') : All w v ln al w' := ⟨row_keep h.1 fun i hi => hs i hi, h.2⟩
theorem All.below (h : All w v ln al wr) {w' : World} (k : Below wr.heap.size wr w') : All w v ln al w' := h.same fun i hi => k.block i (h.1.lt i hi).2
theorem All.base (h : All w v ln al wr) : ∀ i, v.ownBlock = some i → w.heap.size ≤ i := fun i hi => (h.1.lt i hi).1
theorem St.after (h : St w v ln b bl g M L ps al t n wr) {w' : World} (k : Below wr.heap.size wr w') : St w v ln b bl g M L ps al t n w' := ⟨h.now.after k, h.row.below k, h.pu⟩
theorem Mid.after {D : ByteArray} (h : Mid w v ln b bl g M L ps al D t n wr) {w' : World} (k : Below wr.heap.size wr w') : Mid w v ln b bl g M L ps al D t n w' := ⟨h.now.after k, h.row.below k, h.pu⟩
theorem St.mono (h : St w v ln b bl g M L ps al t n wr) {n' : Nat} (k : n ≤ n') : St w v ln b bl g M L ps al t n' wr := ⟨h.now.mono k, h.row, h.pu⟩
theorem St.below (h : St w v ln b bl g M L ps al t n wr) : Below w.heap.size w wr := h.now.at_.below
theorem St.next (h : St w v ln b bl g M L ps al t n wr) : L.next = (ln : Int) + 1 := by have := h.pu.nx; rw [h.row.2] at this; exact this
theorem St.torn (h : St w v ln b bl g M L ps al t n wr) : Torn w v ln b M L ps al t n wr := ⟨h.now.at_.med.narrow _ fun i hi => .inl hi, h.now.inv, h.row, h.pu⟩
theorem Torn.mono (h : Torn w v ln b M L ps al t n wr) {n' : Nat} (k : n ≤ n') : Torn w v ln b M L ps al t n' wr := ⟨h.at_.mono k, h.inv, h.row, h.pu⟩
theorem St.on (h : St w v ln b bl g M L ps al t n wr) : Calls Try.prog 24 #[.pointer (some ⟨b, 0, none⟩)] wr fun e w' => e = .returned (.tuple #[]) ∧ St w v ln b bl g M.on L ps al t n w' :=
  h.now.on.mono fun e w' ⟨a, b, c⟩ => ⟨a, b, h.row.same c, h.pu⟩
theorem St.arm (h : St w v ln b bl g M L ps al t n wr) (x : Int) (hx : x ≤ 9223372036854775807) : Calls Try.prog 11 #[.pointer (some ⟨b, 0, none⟩), .int .i64 x] wr fun e w' => e = .returned (.tuple #[]) ∧ St w v ln b bl g (M.arm x) L ps al t n w' :=
  (h.now.arm x hx).mono fun e w' ⟨a, b, c⟩ => ⟨a, b, h.row.same c, h.pu⟩
theorem Torn.on (h : Torn w v ln b M L ps al t n wr) : Calls Try.prog 24 #[.pointer (some ⟨b, 0, none⟩)] wr fun e w' => e = .returned (.tuple #[]) ∧ Torn w v ln b M.on L ps al t n w' :=
  h.at_.on_calls.mono fun e w' ⟨a, b, c⟩ => ⟨a, b, h.inv.on, h.row.same c, h.pu⟩
theorem St.append_err (h : St w v ln b bl g M L ps al t n wr) (hn : n ≤ 10000000000000) (hx : ln ≤ 1000) (D : ByteArray) (hD : ¬D.size ≤ 440) (hD2 : D.size ≤ 1000) :
    Calls Try.prog 32 #[.pointer (some ⟨bl, 0, none⟩), .string D] wr fun e w' => e = .returned (.tuple #[.int .i64 0, .int .i64 43]) ∧ St w v ln b bl g M L ps al t (n + 30) w' := by
  have e := h.now.append_err hn (by rw [h.next]; omega) D.data.toList (by rw [size_len]; exact hD) (by rw [size_len]; exact hD2)
  rw [ba_eta] at e
  exact e.mono fun e w' ⟨a, b, c⟩ => ⟨a, b, h.row.same c, h.pu⟩
theorem St.append_any (h : St w v ln b bl g M L ps al t n wr) (hn : n ≤ 10000000000000) (hx : ln ≤ 1000) (D : ByteArray) (hD : D.size ≤ 440) :
    Calls Try.prog 32 #[.pointer (some ⟨bl, 0, none⟩), .string D] wr fun e w' =>
      (∃ M' L' ps', e = .returned (.tuple #[.int .i64 ((ln : Int) + 1), .int .i64 0]) ∧ (M.left < 0 → M'.left < 0) ∧ Mid w v ln b bl g M' L' ps' al D t (n + 30) w') ∨
      (∃ M' z, e = .returned (.tuple #[.int .i64 z, .int .i64 40]) ∧ ¬M.left < 0 ∧ Torn w v ln b M' L ps al t (n + 30) w') := by
  have e := h.now.append_any hn (by rw [h.next]; omega) D.data.toList (by rw [size_len]; exact hD)
  rw [ba_eta, h.next] at e
  refine e.mono ?_
  rintro e w' (⟨M', L', p, rfl, h1, h2, h3, h4, h5, hs⟩ | ⟨M', z, rfl, h1, h2, h3, hs⟩)
  · refine .inl ⟨M', L', _, rfl, h2, h1, h.row.same hs, ?_⟩
    have := h.pu.append (L' := L') (p := p) (by rw [h.next]; omega) (by rw [h.next]; exact h4)
    rw [h5, ba_eta] at this
    exact this
  · exact .inr ⟨M', z, rfl, h1, h2, h3, h.row.same hs, h.pu⟩
theorem Mid.push {D : ByteArray} (h : Mid w v ln b bl g M L ps al D t n wr) {w2 : World} {v2 : Value} (hown : w2.ownsRow w.heap.size 9 1 v2 (ln + 1) (al.map Value.string ++ [.string D])) (hg : wr.grownBy w2 v.ownBlock) (hat : v2.ownBlock = v.ownBlock ∨ v2.ownBlock = some wr.heap.size) : St w v2 (ln + 1) b bl g M L ps (al ++ [D]) t n w2 := by
  refine ⟨h.now.grown hg (fun i hi => ⟨?_, (hown.lt i hi).2⟩) h.row.base, ⟨by rw [List.map_append]; exact hown, by rw [List.length_append, h.row.2]; rfl⟩, h.pu⟩
  rcases hat with k | k
  · exact .inl (by rw [← k]; exact hi)
  · rw [k] at hi
    injection hi with e
    exact .inr (by omega)
theorem St.trim (h : St w v ln b bl g M L ps al t n wr) (hn : n ≤ 10000000000000) (x : Int) :
    Calls Try.prog 34 #[.pointer (some ⟨bl, 0, none⟩), .int .i64 x] wr fun e w' =>
      (∃ M' B, e = .returned (.int .i64 0) ∧ (M.left < 0 → M'.left < 0) ∧ St w v ln b bl g M' L B al (max t x) (n + 4000000) w') ∨
      (∃ M' B, e = .returned (.int .i64 40) ∧ ¬M.left < 0 ∧ Torn w v ln b M' L B al (max t x) (n + 4000000) w') := by
  refine (h.now.trim_any hn x).mono ?_
  rintro e w' ⟨M', B0, B, h1, h2, h3, h4, h5, hs, ⟨rfl, h6, h7⟩ | ⟨rfl, h6⟩⟩
  · exact .inl ⟨M', B, rfl, h7, h6, h.row.same hs, h.pu.trim h.now.inv h3 h4 h5⟩
  · exact .inr ⟨M', B, rfl, h6, h1, h2, h.row.same hs, h.pu.trim h.now.inv h3 h4 h5⟩
end
/-- The cells of the frames that Open found. -/
def Row (A : Option Addr) (xs : List Fr) (w : World) : Prop := 0 < xs.length → ∃ q, A = some ⟨q, 0, none⟩ ∧ ∀ (j : Nat) x, xs[j]? = some x → w.cell? ⟨q, j * 2, none⟩ = some (.int .i64 x.1) ∧ w.cell? ⟨q, j * 2 + 1, none⟩ = some (.string x.2)
theorem Torn.open_ {w wr : World} {v : Value} {ln b n : Nat} {M : Med} {L : Lg} {ps : List Pc} {al : List ByteArray} {t : Int} (h : Torn w v ln b M L ps al t n wr) (ho : M.off = false) (hn : n ≤ 1000000000000) :
    Calls Try.prog 31 #[.pointer (some ⟨b, 0, none⟩)] wr fun e w' => ∃ bl g A c L' xs, e = .returned (.tuple #[.pointer (some ⟨bl, 0, none⟩), .slice A xs.length c, .int .i64 0]) ∧ St w v ln b bl g M L' ps al t (n + 50000000) w' ∧ Row A xs w' ∧ Fs al t xs ∧ (xs = [] → al = []) ∧ xs.length ≤ ln := by
  refine (open_now h.at_ h.inv (fun _ k => k) ho hn).mono ?_
  rintro e w' ⟨bl, g, A, c, L', rfl, h1, h2, h3, h4, h5, h6⟩
  refine ⟨bl, g, A, c, L', ps.map fr, by rw [List.length_map], ⟨⟨h1.at_.narrow _ fun i hi => .inl hi, h1.inv, h1.off⟩, h.row.same fun i hi => h6 i hi, h.pu.on h4⟩, ?_, h.pu.fs h.inv, fun k => h.pu.ne (by simpa using k), ?_⟩
  · intro hl
    rw [List.length_map] at hl
    obtain ⟨q, cap, hv, _, _, _, hq⟩ := row_cell h5 hl
    refine ⟨q, by injection hv, fun j x hx => ?_⟩
    obtain ⟨f1, f2⟩ := fcells_at (ps.map fr) j x hx
    exact ⟨hq _ _ f1, hq _ _ f2⟩
  · rw [List.length_map]
    have nx := h.pu.nx
    rw [h.row.2] at nx
    cases hps : ps with
    | nil => simp
    | cons p rest =>
      have k0 : ps[0]? = some p := by rw [hps]; rfl
      have := (h.inv.below k0).1
      have g1 := (h.inv.good p (List.mem_of_getElem? k0)).ok.1
      rw [← hps]
      omega
end Go.Proofs.Ytdjcaogffppdhaa.LogN
namespace Go.Proofs.Ytdjcaogffppdhaa.LawLLasts
open Go.RowKit Go.ChangeMaps Go.Proofs.Ytdjcaogffppdhaa.AtX Go.Proofs.Ytdjcaogffppdhaa.App Go.Proofs.Ytdjcaogffppdhaa.Log Go.Proofs.Ytdjcaogffppdhaa.LogN Go.Proofs.Ytdjcaogffppdhaa.LogZ Go.Proofs.Ytdjcaogffppdhaa.SumPure
open Go.Proofs.Ytdjcaogffppdhaa.Med (IsMed Med Ranged IsSize IsFiles Filed)
open Go.Proofs.Ytdjcaogffppdhaa.FramesPure Go.Proofs.Ytdjcaogffppdhaa.Args
open Go.Proofs.YtdjcaogffppdhaaW.PrintWords Go.Proofs.YtdjcaogffppdhaaW.PrintLast Go.Proofs.YtdjcaogffppdhaaW.PrintMore
attribute [local go_sem] Go.undef
attribute [local go_sem ↓] Go.wp_at_zero Go.wp_at_succ
/-- What stands at the statement behind the call, where the power was to go off. -/
def Tl (w : World) (b k n : Nat) (v9 v10 v11 : Value) (wx : World) : Prop := ∃ (M : Med) (L : Lg) (ps : List Pc) (al : List ByteArray) (ln : Nat) (s t : Int), v10 = .int .i64 s ∧ v11 = .int .i64 t ∧ t ≤ 1000 ∧ s ≤ ln ∧ ln ≤ k ∧ 0 ≤ s ∧ Torn w v9 ln b M L ps al t n wx
set_option maxHeartbeats 16000000 in
set_option maxRecDepth 100000 in
theorem walk (a0 : Option Addr) (len0 cap0 : Nat) (a1 : Option Addr) (len1 cap1 : Nat) (l1 : List Int) (w : World) (h0 : HasRows w a0 len0 2) (h1 : Has w a1 len1 l1) :
    Calls Try.prog 9 #[.slice a0 len0 cap0, .slice a1 len1 cap1] w fun e w' => e = .returned (.bool true) ∧ Below w.heap.size w w' := by
  have l0le := h0.le
  have l1le := h1.le
  have H0 := Aside0.mk h0
  have H1 := Aside0.mk h1
  clear h0 h1
  go_enter Try.func9, Try.ntmps9
  go_wp2_with (fail)
  refine (AtX.new w).mono ?_
  rintro e w1 ⟨b, rfl, hb⟩
  have HB := Aside0.mk hb
  clear hb
  go_wp2_with (fail)
  refine (open_now HB.out (Inv.new Front) (fun s k => k) rfl (by decide)).mono ?_
  rintro e w2 ⟨bl, g, A0, c0, L0, rfl, h2, e1, e2, e3, _, _⟩
  have HS0 : Aside0 (St w (.slice none 0 0) 0 b bl g Med.Med.new L0 [] [] 0 50000000 w2) := ⟨⟨⟨h2.at_.narrow _ (fun i hi => by simp [Ob, Value.ownBlock] at hi), h2.inv, h2.off⟩, ⟨World.ownsRow_nil _ _ _ _, rfl⟩, Pu.new e3⟩⟩
  clear h2 e1 e2 e3 HB
  simp only [List.length_nil]
  go_wp2_with (fail)
  go_loopw [6, 9, 10, 11, 12] (fun v6 v9 v10 v11 v12 wr => ∃ (i ln : Nat) (bl g : Nat) (M : Med) (L : Lg) (ps : List Pc) (al : List ByteArray) (s t : Int), i ≤ 100 ∧ i ≤ len0 ∧ v12 = .int .i64 i ∧ v6 = .pointer (some ⟨bl, 0, none⟩) ∧ v10 = .int .i64 s ∧ v11 = .int .i64 t ∧ t ≤ 1000 ∧ 0 ≤ t ∧ s ≤ ln ∧ 0 ≤ s ∧ ln ≤ i ∧ Aside0 (St w v9 ln b bl g M L ps al t (50000000 + 60000000 * i) wr) ∧ Aside0 (M.left < 0)) (fun _ _ _ _ v12 _ => 100 - (intOf v12).toNat)
  case atStart => exact ⟨0, 0, bl, g, Med.Med.new, L0, [], [], 0, 0, by omega, by omega, rfl, rfl, rfl, rfl, by omega, by omega, by omega, by omega, by omega, ⟨HS0.out⟩, ⟨by decide⟩⟩
  case round =>
    obtain ⟨i, ln, bl, g, M, L, ps, al, s, t, hi, hi0, rfl, rfl, rfl, rfl, t1, t0, s1, s0, hln, HA, HL⟩ := hrel
    clear HS0
    by_cases hlt : i < len0 ∧ i < 100
    · obtain ⟨hlt, h100⟩ := hlt
      obtain ⟨A9, c9, rfl⟩ := HA.out.row.shape
      obtain ⟨ar, har⟩ : ∃ ar : Bool, ar = decide (0 < len1 ∧ i % 3 = 2) := ⟨_, rfl⟩
      have HAR := Aside0.mk har
      clear har
      go_upto_region 11 with (fail)
      go_cut [13] (fun s13 wx => s13 = .bool ar ∧ wx = wr)
      case first =>
        as_aux_lemma =>
        by_cases hl1 : 0 < len1
        · have hq : Int.tmod (i : Int) 3 = ((i % 3 : Nat) : Int) := by rw [Int.tmod_eq_emod_of_nonneg (by omega)]; omega
          by_cases h3 : i % 3 = 2
          · have h3b : (i : Int) % 3 = 2 := by omega
            have h3c : ((i : Int) % 3 == 2) = true := by rw [h3b]; rfl
            have HE : Aside0 (ar = true) := ⟨by rw [HAR.out]; simp [hl1, h3]⟩
            clear hq h3b
            go_wp2
            go_meet
            exact ⟨by rw [HE.out], rfl⟩
          · have h3c : ((i : Int) % 3 == 2) = false := by rw [beq_eq_false_iff_ne]; omega
            have HE : Aside0 (ar = false) := ⟨by rw [HAR.out]; simp [h3]⟩
            clear hq
            go_wp2
            go_meet
            exact ⟨by rw [HE.out], rfl⟩
        · have HE : Aside0 (ar = false) := ⟨by rw [HAR.out]; simp; omega⟩
          go_wp2
          go_meet
          exact ⟨by rw [HE.out], rfl⟩
      case rest =>
        obtain ⟨rfl, rfl⟩ := hcut
        obtain ⟨i0, hI0, hz0, hz1, hz2⟩ := infoParts stringInfo
        have b1 : (0 : Int) ≤ (i : Int) := by omega
        have b2 : (i : Int) < (len0 : Int) := by omega
        cases ar with
        | false =>
          as_aux_lemma =>
          clear HAR
          obtain ⟨x0, rfl, hrow⟩ := H0.out.at HA.out.below hlt
          obtain ⟨z0, d0, l0, u0⟩ := hrow 0 (by decide)
          obtain ⟨z1, d1, l1', u1⟩ := hrow 1 (by decide)
          rw [Nat.add_zero] at d0
          rw [← add_off x0 (i * 2) 1 (by decide)] at d1
          clear hrow
          obtain ⟨D, hD⟩ : ∃ D : ByteArray, D = ⟨(fillL z0 z1).toArray⟩ := ⟨_, rfl⟩
          have hDs : D.size ≤ 500 := by rw [hD, size_mk, fillL_len]; omega
          have cfill : ∀ W, Calls Try.prog 38 #[.int .i64 z0, .int .i64 z1] W fun e w' => e = .returned (.string D) ∧ Below W.heap.size W w' := fun W => by rw [hD]; exact fill_any z0 z1 W
          have HF := Aside0.mk cfill
          clear cfill hD
          by_cases hz : z0 ≥ 0
          · as_aux_lemma =>
            go_upto_region 17 with (fail)
            first
              | (go_region_held3 (fun w' => w'.cell? (x0.add (i * 2)) = some (.int .i64 z0) ∧ w'.cell? ⟨(x0.add (i * 2)).block, (x0.add (i * 2)).off + 1, none⟩ = some (.int .i64 z1)) (first | (go_split_ands; assumption) | (refine ⟨?_, ?_⟩ <;> assumption) | go_keep) ((go_at_call 38; refine (HF.out _).mono ?_; rintro e wA ⟨rfl, hk⟩; have hk' : Below wc.heap.size wc wA := ⟨hk.os, hk.tape, hk.output, hk.size, hk.block⟩; have f0 := (hk'.cell (p := x0.add (i * 2)) (World.block_lt_of_cell? wc _ d0)).trans d0; have f1 := (hk'.cell (p := ⟨(x0.add (i * 2)).block, (x0.add (i * 2)).off + 1, none⟩) (World.block_lt_of_cell? wc _ d1)).trans d1; have HA2 : Aside0 (St w (.slice A9 ln c9) ln b bl g M L ps al t (50000000 + 60000000 * i) wA) := ⟨HA.out.after hk'⟩; clear hk hk')))
              | fail
            all_goals
              clear HA d0 d1 f0 f1
              by_cases hd : D.size ≤ 440
              · go_wp2_with (fail)
                refine (HA2.out.append_any (by omega) (by omega) D hd).mono ?_
                rintro e wB (⟨M', L', ps', rfl, hl, hm⟩ | ⟨M', z, rfl, hl, hm⟩)
                · have HM := Aside0.mk hm
                  have HL' := Aside0.mk (hl HL.out)
                  clear hm hl HA2
                  go_wp2_with (at_builtin; refine wpList_append_any _ rfl _ _ _ rfl w.heap.size 9 i0 _ 16 Try.underlying60 hI0 hz0 hz1 hz2 rfl _ ln (al.map Value.string) rfl (HM.out.row.1.alloc _) (wB.heap.size + 1) (some ⟨wB.heap.size, 0, none⟩) 1 1 [.string D] rfl ⟨rfl, fun _ => ⟨_, rfl, by simp, World.news_of_block (heap_alloc_new wB _)⟩⟩ (by simp; rfl) (by unfold maxLen; omega) (by omega) (by simp; have := HM.out.now.at_.below.size; omega) ?_; intro v2 w2 hown2 hg2 hat2; have HS2 := Aside0.mk ((HM.out.after ((Below.refl _ wB).alloc (Nat.le_refl _) _)).push hown2 hg2 hat2); clear hown2 hg2 hat2)
                  go_roundw
                  case rel => exact ⟨i + 1, ln + 1, bl, g, M', L', ps', al ++ [D], (ln : Int) + 1, t, by omega, by omega, by go_num, rfl, rfl, rfl, t1, t0, by omega, by omega, by omega, ⟨HS2.out.mono (by omega)⟩, HL'⟩
                  case measure => simp [intOf]; omega
                · exact absurd HL.out hl
              · have hd2 : (440 : Int) < (D.size : Int) := by omega
                go_wp2_with (fail)
                refine (HA2.out.append_err (by omega) (by omega) D hd (by omega)).mono ?_
                rintro e wB ⟨rfl, hm⟩
                have HM := Aside0.mk hm
                clear hm HA2
                go_wp2_with (fail)
                refine HM.out.on.mono ?_
                rintro e wC ⟨rfl, hm⟩
                have HN := Aside0.mk hm
                clear hm HM
                go_wp2_with (fail)
                go_roundw
                case rel => exact ⟨i + 1, ln, bl, g, M.on, L, ps, al, s, t, by omega, by omega, by go_num, rfl, rfl, rfl, t1, t0, s1, s0, by omega, ⟨HN.out.mono (by omega)⟩, ⟨by show (-1 : Int) < 0; decide⟩⟩
                case measure => simp [intOf]; omega
          · as_aux_lemma =>
            obtain ⟨mz, hmz⟩ : ∃ mz, max z0 (-9) = mz := ⟨_, rfl⟩
            have mz0 : -9 ≤ mz := by omega
            have mz1 : mz ≤ -1 := by omega
            go_wp2_with (fail)
            refine (HA.out.trim (by omega) ((ln : Int) + mz)).mono ?_
            rintro e wB (⟨M', B, rfl, hl, hm⟩ | ⟨M', B, rfl, hl, hm⟩)
            · have HM := Aside0.mk hm
              have HL' := Aside0.mk (hl HL.out)
              clear hm hl HA d0 d1
              go_wp2_with (fail)
              go_roundw
              case rel => exact ⟨i + 1, ln, bl, g, M', L, B, al, s, max t ((ln : Int) + mz), by omega, by omega, by go_num, rfl, rfl, rfl, by omega, by omega, s1, s0, by omega, ⟨HM.out.mono (by omega)⟩, HL'⟩
              case measure => simp [intOf]; omega
            · exact absurd HL.out hl
        | true =>
          as_aux_lemma =>
          obtain ⟨hl1, h3⟩ := of_decide_eq_true HAR.out.symm
          clear HAR
          obtain ⟨j, hj⟩ : ∃ j, j = i % len1 := ⟨_, rfl⟩
          have hjl : j < len1 := by rw [hj]; exact Nat.mod_lt _ hl1
          have hq : (i : Int) % (len1 : Int) = (j : Int) := by rw [hj]; omega
          obtain ⟨x1, rfl, d2, lc, uc⟩ := H1.out.at HA.out.below hjl
          obtain ⟨zc, hzc⟩ : ∃ zc, zc = l1.getD j 0 := ⟨_, rfl⟩
          rw [← hzc] at d2 lc uc
          obtain ⟨y, hy⟩ : ∃ y, Int.tmod zc 12 = y := ⟨_, rfl⟩
          have hy12 : y ≤ 9223372036854775807 := by rw [← hy]; have := Int.tmod_lt_of_pos zc (show (0 : Int) < 12 by decide); omega
          have b3 : (0 : Int) ≤ (j : Int) := by omega
          have b4 : (j : Int) < (len1 : Int) := by omega
          have HJ := Aside0.mk hj
          clear hj hzc
          go_wp2_with (fail)
          refine (HA.out.arm y hy12).mono ?_
          rintro e wM ⟨rfl, hm⟩
          have HA1 := Aside0.mk hm
          clear hm d2 HL
          obtain ⟨x0, rfl, hrow⟩ := H0.out.at HA1.out.below hlt
          obtain ⟨z0, d0, l0, u0⟩ := hrow 0 (by decide)
          obtain ⟨z1, d1, l1', u1⟩ := hrow 1 (by decide)
          rw [Nat.add_zero] at d0
          rw [← add_off x0 (i * 2) 1 (by decide)] at d1
          clear hrow
          obtain ⟨D, hD⟩ : ∃ D : ByteArray, D = ⟨(fillL z0 z1).toArray⟩ := ⟨_, rfl⟩
          have hDs : D.size ≤ 500 := by rw [hD, size_mk, fillL_len]; omega
          have cfill : ∀ W, Calls Try.prog 38 #[.int .i64 z0, .int .i64 z1] W fun e w' => e = .returned (.string D) ∧ Below W.heap.size W w' := fun W => by rw [hD]; exact fill_any z0 z1 W
          have HF := Aside0.mk cfill
          clear cfill hD
          go_upto_if 75 with (fail)
          go_cut [9, 10, 11] (fun v9 v10 v11 wx => Tl w b (i + 1) (54000100 + 60000000 * i) v9 v10 v11 wx)
          case first =>
            by_cases hz : z0 ≥ 0
            · as_aux_lemma =>
              go_upto_region 17 with (fail)
              first
                | (go_region_held3 (fun w' => w'.cell? (x0.add (i * 2)) = some (.int .i64 z0) ∧ w'.cell? ⟨(x0.add (i * 2)).block, (x0.add (i * 2)).off + 1, none⟩ = some (.int .i64 z1)) (first | (go_split_ands; assumption) | (refine ⟨?_, ?_⟩ <;> assumption) | go_keep) ((go_at_call 38; refine (HF.out _).mono ?_; rintro e wA ⟨rfl, hk⟩; have hk' : Below wM.heap.size wM wA := ⟨hk.os, hk.tape, hk.output, hk.size, hk.block⟩; have f0 := (hk'.cell (p := x0.add (i * 2)) (World.block_lt_of_cell? wM _ d0)).trans d0; have f1 := (hk'.cell (p := ⟨(x0.add (i * 2)).block, (x0.add (i * 2)).off + 1, none⟩) (World.block_lt_of_cell? wM _ d1)).trans d1; have HA2 : Aside0 (St w (.slice A9 ln c9) ln b bl g (M.arm y) L ps al t (50000000 + 60000000 * i) wA) := ⟨HA1.out.after hk'⟩; clear hk hk')))
                | fail
              all_goals
                clear HA HA1 d0 d1 f0 f1
                by_cases hd : D.size ≤ 440
                · go_wp2_with (fail)
                  refine (HA2.out.append_any (by omega) (by omega) D hd).mono ?_
                  rintro e wB (⟨M', L', ps', rfl, hl, hm⟩ | ⟨M', z, rfl, hl, hm⟩)
                  · have HM := Aside0.mk hm
                    clear hm hl HA2
                    go_wp2_with (at_builtin; refine wpList_append_any _ rfl _ _ _ rfl w.heap.size 9 i0 _ 16 Try.underlying60 hI0 hz0 hz1 hz2 rfl _ ln (al.map Value.string) rfl (HM.out.row.1.alloc _) (wB.heap.size + 1) (some ⟨wB.heap.size, 0, none⟩) 1 1 [.string D] rfl ⟨rfl, fun _ => ⟨_, rfl, by simp, World.news_of_block (heap_alloc_new wB _)⟩⟩ (by simp; rfl) (by unfold maxLen; omega) (by omega) (by simp; have := HM.out.now.at_.below.size; omega) ?_; intro v2 w2 hown2 hg2 hat2; have HS2 := Aside0.mk ((HM.out.after ((Below.refl _ wB).alloc (Nat.le_refl _) _)).push hown2 hg2 hat2); clear hown2 hg2 hat2)
                    go_meet
                    exact ⟨M', L', ps', al ++ [D], ln + 1, (ln : Int) + 1, t, rfl, rfl, t1, by omega, by omega, by omega, (HS2.out.mono (by omega)).torn⟩
                  · have HM := Aside0.mk hm
                    clear hm hl HA2
                    go_wp2_with (fail)
                    go_meet
                    exact ⟨M', L, ps, al, ln, s, t, rfl, rfl, t1, s1, by omega, s0, HM.out.mono (by omega)⟩
                · have hd2 : (440 : Int) < (D.size : Int) := by omega
                  go_wp2_with (fail)
                  refine (HA2.out.append_err (by omega) (by omega) D hd (by omega)).mono ?_
                  rintro e wB ⟨rfl, hm⟩
                  have HM := Aside0.mk hm
                  clear hm HA2
                  go_wp2_with (fail)
                  refine HM.out.on.mono ?_
                  rintro e wC ⟨rfl, hm⟩
                  have HN := Aside0.mk hm
                  clear hm HM
                  go_wp2_with (fail)
                  go_roundw
                  case rel => exact ⟨i + 1, ln, bl, g, (M.arm y).on, L, ps, al, s, t, by omega, by omega, by go_num, rfl, rfl, rfl, t1, t0, s1, s0, by omega, ⟨HN.out.mono (by omega)⟩, ⟨by show (-1 : Int) < 0; decide⟩⟩
                  case measure => simp [intOf]; omega
            · as_aux_lemma =>
              obtain ⟨mz, hmz⟩ : ∃ mz, max z0 (-9) = mz := ⟨_, rfl⟩
              have mz0 : -9 ≤ mz := by omega
              have mz1 : mz ≤ -1 := by omega
              go_wp2_with (fail)
              refine (HA1.out.trim (by omega) ((ln : Int) + mz)).mono ?_
              rintro e wB (⟨M', B, rfl, hl, hm⟩ | ⟨M', B, rfl, hl, hm⟩)
              · have HM := Aside0.mk hm
                clear hm hl HA HA1 d0 d1
                go_wp2_with (fail)
                go_meet
                exact ⟨M', L, B, al, ln, s, max t ((ln : Int) + mz), rfl, rfl, by omega, s1, by omega, s0, (HM.out.mono (by omega)).torn⟩
              · have HM := Aside0.mk hm
                clear hm hl HA HA1 d0 d1
                go_wp2_with (fail)
                go_meet
                exact ⟨M', L, B, al, ln, s, max t ((ln : Int) + mz), rfl, rfl, by omega, s1, by omega, s0, HM.out.mono (by omega)⟩
          case rest =>
            obtain ⟨M5, L5, ps5, al5, ln5, s5, t5, rfl, rfl, t51, s51, ln51, s50', hT⟩ := hcut
            have HSg := Aside0.mk s50'
            clear HA HA1 d0 d1 HF
            obtain ⟨A5, c5, rfl⟩ := hT.row.shape
            have HT := Aside0.mk hT
            clear hT
            go_wp2_with (fail)
            refine HT.out.on.mono ?_
            rintro e wC ⟨rfl, hm⟩
            have HT1 := Aside0.mk hm
            clear hm HT
            go_wp2_with (fail)
            refine (HT1.out.open_ rfl (by omega)).mono ?_
            rintro e wD ⟨bl', g', A6, c6, L', xs, rfl, hS, hR, hFs, hne, hxl⟩
            have hNx : ∀ m, Calls Try.prog 36 #[.pointer (some ⟨bl', 0, none⟩)] (wD.drewN m) fun e w' => e = .returned (.int .i64 ((ln5 : Int) + 1)) ∧ wD.drewN m = w' := fun m => by
              have k := (hS.now.at_.drawn m)
              have := next_calls k
              rw [hS.next] at this
              exact this
            have HS := Aside0.mk hS
            have HNx := Aside0.mk hNx
            clear hS hNx HT1
            by_cases hx : xs = []
            · as_aux_lemma =>
              subst hx
              have h50 : ln5 = 0 := by rw [← HS.out.row.2, hne rfl]; rfl
              subst h50
              simp only [List.length_nil]
              have s50 : s5 ≤ 0 := by omega
              clear hR hFs hne hxl s51
              go_wp2_with (fail)
              refine (HNx.out 0).mono ?_
              rintro e wE ⟨rfl, rfl⟩
              go_wp2_with (fail)
              go_roundw
              case rel => exact ⟨i + 1, 0, bl', g', M5.on, L', ps5, al5, s5, t5, by omega, by omega, by go_num, rfl, rfl, rfl, t51, HS.out.pu.t0, by omega, HSg.out, by omega, ⟨HS.out.mono (by omega)⟩, ⟨by show (-1 : Int) < 0; decide⟩⟩
              case measure => simp [intOf]; omega
            · as_aux_lemma =>
              obtain ⟨nx, hnx⟩ : ∃ nx, nx = xs.length := ⟨_, rfl⟩
              have hpos : 0 < nx := by rw [hnx]; exact List.length_pos_iff.2 hx
              obtain ⟨q, rfl, hq⟩ := hR (by omega)
              obtain ⟨N, hN⟩ : ∃ N : Nat → Int, N = fun j => (xs.getD j (0, ⟨#[]⟩)).1 := ⟨_, rfl⟩
              obtain ⟨S, hS⟩ : ∃ S : Nat → ByteArray, S = fun j => (xs.getD j (0, ⟨#[]⟩)).2 := ⟨_, rfl⟩
              have hget : ∀ j, j < nx → xs[j]? = some (N j, S j) := fun j hj => by
                rw [hN, hS, List.getElem?_eq_getElem (by omega)]
                simp only [List.getD_eq_getElem?_getD, List.getElem?_eq_getElem (show j < xs.length by omega), Option.getD_some]
              have hln : 0 < ln5 := by omega
              obtain ⟨qa, ca, hva, _, _, _, hqa⟩ := row_cell HS.out.row.1 hln
              obtain rfl : A5 = some ⟨qa, 0, none⟩ := by injection hva
              have HC : Aside0 (∀ j, j < nx → wD.cell? ⟨q, j * 2, none⟩ = some (.int .i64 (N j)) ∧ wD.cell? ⟨q, j * 2 + 1, none⟩ = some (.string (S j)) ∧ wD.cell? ⟨qa, (N j).toNat - 1, none⟩ = some (.string (S j)) ∧ 1 ≤ N j ∧ N j ≤ (ln5 : Int)) := ⟨fun j hj => by
                obtain ⟨k1, k2⟩ := hq j _ (hget j hj)
                obtain ⟨k3, k4, k5⟩ := hFs.at_ j _ (hget j hj)
                rw [HS.out.row.2] at k4
                refine ⟨k1, k2, hqa _ _ ?_, k3, k4⟩
                rw [show (N j).toNat - 1 = (N j - 1).toNat from by omega, List.getElem?_map, k5]; rfl⟩
              have HN1 : Aside0 (∀ j, j + 1 < nx → N (j + 1) = N j + 1) := ⟨fun j hj => hFs.next j _ _ (hget j (by omega)) (hget (j + 1) hj)⟩
              have hN0 : N 0 ≤ t5 + 1 := hFs.one _ (hget 0 hpos)
              have HNL : Aside0 (N (nx - 1) = (ln5 : Int)) := ⟨by
                have := hFs.end_ _ (by rw [← hnx]; exact hget (nx - 1) (by omega))
                rw [HS.out.row.2] at this; exact this⟩
              have hnl : nx ≤ ln5 := by omega
              rw [← hnx]
              have c00 := (HC.out 0 hpos).1
              clear hN hS hget hq hqa hFs hR hva hnx hne hx hxl
              have c00' : wD.cell? ⟨q, 0, none⟩ = some (.int .i64 (N 0)) := by simpa using c00
              clear c00
              have t50 : 0 ≤ t5 := HS.out.pu.t0
              go_wp2_with (fail)
              go_loopw [20] (fun v20 wq => ∃ k m : Nat, k ≤ nx ∧ v20 = .int .i64 k ∧ wq = wD.drewN m) (fun v20 _ => nx - (intOf v20).toNat)
              case atStart => exact ⟨0, 0, by omega, rfl, rfl⟩
              case round =>
                obtain ⟨k, m, hk, rfl, rfl⟩ := hrel
                clear c00' hN0
                by_cases hkl : k < nx
                · obtain ⟨d1, d2, d3, d4, d5⟩ := HC.out k hkl
                  have e1 : (N k == (ln5 : Int) + 1) = false := by rw [beq_eq_false_iff_ne]; omega
                  cases k with
                  | zero =>
                    have d1' : wD.cell? ⟨q, 0, none⟩ = some (.int .i64 (N 0)) := by simpa using d1
                    have d2' : wD.cell? ⟨q, 1, none⟩ = some (.string (S 0)) := by simpa using d2
                    have e3 : IntKind.i64.wrap (N 0 - 1) = N 0 - 1 := by rw [IntKind.wrap_i64]; omega
                    have e4 : (0 : Int) ≤ N 0 - 1 := by omega
                    have e5 : N 0 - 1 < (ln5 : Int) := by omega
                    have e6 : decide (N 0 ≤ (ln5 : Int)) = true := by simpa using d5
                    have e7 : IntKind.i64.wrap ((ln5 : Int) + 1) = (ln5 : Int) + 1 := by rw [IntKind.wrap_i64]; omega
                    clear d1 d2
                    go_upto_region 48 with (fail)
                    go_quiet ((fail))
                    all_goals
                      go_wp2
                      go_roundw
                      case rel => exact ⟨1, _, by omega, by go_num, rfl⟩
                      case measure => simp [intOf]; omega
                  | succ k =>
                    have p1 := (HC.out k (by omega)).1
                    have hnk := HN1.out k hkl
                    have p1' : wD.cell? ⟨q, k * 2, none⟩ = some (.int .i64 (N (k + 1) - 1)) := by rw [hnk, show N k + 1 - 1 = N k from by omega]; exact p1
                    have ww : IntKind.i64.wrap (((k + 1 : Nat) : Int) - 1) = (k : Int) := by rw [IntKind.wrap_i64]; omega
                    generalize N (k + 1) = Nk at *
                    generalize S (k + 1) = Sk at *
                    have e3 : IntKind.i64.wrap (Nk - 1) = Nk - 1 := by rw [IntKind.wrap_i64]; omega
                    have e4 : (0 : Int) ≤ Nk - 1 := by omega
                    have e5 : Nk - 1 < (ln5 : Int) := by omega
                    have e6 : decide (Nk ≤ (ln5 : Int)) = true := by simpa using d5
                    have e7 : IntKind.i64.wrap ((ln5 : Int) + 1) = (ln5 : Int) + 1 := by rw [IntKind.wrap_i64]; omega
                    clear hnk p1
                    go_upto_region 48 with (fail)
                    go_quiet ((fail))
                    all_goals
                      go_wp2
                      go_roundw
                      case rel => exact ⟨k + 2, _, by omega, by go_num, rfl⟩
                      case measure => simp [intOf]; omega
                · obtain rfl : k = nx := by omega
                  obtain ⟨mx, rfl⟩ : ∃ mx, k = mx + 1 := ⟨k - 1, by omega⟩
                  have d1 := (HC.out mx (by omega)).1
                  have e0 : N mx = (ln5 : Int) := HNL.out
                  rw [e0] at d1
                  have d1' : wD.cell? ⟨q, ((mx : Int)).toNat * 2, none⟩ = some (.int .i64 (ln5 : Int)) := d1
                  have ww : IntKind.i64.wrap (((mx + 1 : Nat) : Int) - 1) = (mx : Int) := by rw [IntKind.wrap_i64]; omega
                  clear e0 HC HN1 HNL
                  go_wp2_with (fail)
                  refine (HNx.out _).mono ?_
                  rintro e wE ⟨rfl, rfl⟩
                  go_wp2_with (fail)
                  go_roundw
                  case rel => exact ⟨i + 1, ln5, bl', g', M5.on, L', ps5, al5, s5, t5, by omega, by omega, by go_num, rfl, rfl, rfl, t51, HS.out.pu.t0, s51, HSg.out, by omega, ⟨(HS.out.after (w' := wD.drewN m) ⟨rfl, rfl, rfl, Nat.le_refl _, fun _ _ => rfl⟩).mono (by omega)⟩, ⟨by show (-1 : Int) < 0; decide⟩⟩
                  case measure => simp [intOf]; omega
    · as_aux_lemma =>
      have hex : ¬i < len0 ∨ (i < len0 ∧ ¬i < 100) := by omega
      rcases hex with hex | ⟨hex, hex2⟩
      all_goals
        go_wp2_with (go_at_call 37; refine (awake_calls _).mono ?_; rintro e wR ⟨rfl, hb⟩; have HR := Aside0.mk (HA.out.below.trans (hb.mono HA.out.below.size)); clear hb)
        go_ret
        exact ⟨rfl, HR.out⟩
end Go.Proofs.Ytdjcaogffppdhaa.LawLLasts
