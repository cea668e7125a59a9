/- The walk of the law CodecLays. Printed by clays.py. -/
import Derived.Test.YtgdoodeibcfcjaaGreatBKept
import Derived.Test.YtgdoodeibcfcjaaGreatBRefT
import Derived.Test.YtgdoodeibcfcjaaGreatCSmall
import Derived.Test.YtgdoodeibcfcjaaGreatCFew
import Derived.Test.YtgdoodeibcfcjaaGreatCOpenC
import Derived.Test.YtgdoodeibcfcjaaGreatCOpenH
import Derived.Test.YtgdoodeibcfcjaaGreatCAwake
set_option linter.unusedVariables false
set_option linter.unusedSimpArgs false
namespace Go.Proofs.YtgdoodeibcfcjaaGreat.Wire
open Go.RowKit Go.Proofs.YtgdoodeibcfcjaaGreat.NumsPure Go.Proofs.YtgdoodeibcfcjaaGreat.CPure Go.Proofs.YtgdoodeibcfcjaaGreat.Own
def gF (N : Nat) (f : Nat → Value) : Act := { tmps := (Array.range N).map f, defers := [] }
theorem gF_size (N : Nat) (f : Nat → Value) : (gF N f).tmps.size = N := by simp [gF]
theorem gF_at {N : Nat} (f : Nat → Value) {t : Nat} (h : t < N) : (gF N f).eval (.tmp t) = f t := by
  simp [gF, Act.eval, Array.getD_eq_getD_getElem?, h]
section
variable {Sw : World → Prop} {ops : Array Oper} {N : Nat} {f : Nat → Value} {l : List Oper} {o : Oper}
theorem gl {d : Nat} (hd : o.dst = some d) (hlt : d < N) (hw : Region.wanted o (yielded ops (gF N f).tmps) = true) (hr : ∀ w, Sw w → (execOp (gF N f).eval o).run Tryz.prog w = .ok (.value (f d)) w) (h : AllS Sw ops (gF N f) l) : AllS Sw ops (gF N f) (o :: l) :=
  ⟨fun d' hd' => by
    rw [hd] at hd'
    cases hd'
    exact ⟨hw, fun w hS => .inl (by rw [gF_at f hlt]; exact hr w hS)⟩, h⟩
theorem gcall {d : Nat} {fn : Nat} {vals : Array Value} (hd : o.dst = some d) (hlt : d < N) (hw : Region.wanted o (yielded ops (gF N f).tmps) = true) (hr : ∀ w, (execOp (gF N f).eval o).run Tryz.prog w = .ok (.enter fn vals) w) (hc : ∀ w, Sw w → Calls Tryz.prog fn vals w fun e w' => e = .returned (f d) ∧ Sw w') (h : AllS Sw ops (gF N f) l) : AllS Sw ops (gF N f) (o :: l) :=
  ⟨fun d' hd' => by
    rw [hd] at hd'
    cases hd'
    exact ⟨hw, fun w hS => .inr ⟨fn, vals, hr w, by rw [gF_at f hlt]; exact hc w hS⟩⟩, h⟩
theorem gmv {s d : Nat} (p : o.op = .move (.tmp s) ∨ o.op = .assign (.tmp s)) (hd : o.dst = some d) (hs : s < N) (hlt : d < N) (hw : Region.wanted o (yielded ops (gF N f).tmps) = true) (e : f d = f s) (h : AllS Sw ops (gF N f) l) : AllS Sw ops (gF N f) (o :: l) :=
  gl hd hlt hw (fun w _ => by unfold execOp; rcases p with p | p <;> simp only [p, gF_at f hs, Sem.run_pure, e]) h
theorem gld {T : TypeId} {s d b : Nat} {xs : List Value} {dt : TypeDesc} (p : o.op = .load T (.tmp s)) (hd : o.dst = some d) (hs : s < N) (hlt : d < N) (hw : Region.wanted o (yielded ops (gF N f).tmps) = true) (es : f s = .pointer (some ⟨b, 0, none⟩)) (ed : f d = .agg xs.toArray) (hu : Tryz.prog.underlying T = some dt) (hdr : dt.isRow = true) (hi : (Tryz.prog.info? T).map (·.size) = some xs.length) (hc : ∀ w, Sw w → ∀ q v, xs[q]? = some v → w.cell? ⟨b, q, none⟩ = some v) (h : AllS Sw ops (gF N f) l) : AllS Sw ops (gF N f) (o :: l) :=
  gl hd hlt hw (fun w hS => by
    have e := run_loadVar_at (P := Tryz.prog) w ⟨b, 0, none⟩ T xs dt (fun q v hv => by rw [add0B]; exact hc w hS q v hv) hu hdr hi
    rw [ed]
    unfold execOp
    simp only [p, gF_at f hs, es, Instr.loadAt, Instr.sureAddr, Sem.run_bind, Sem.run_pure, Result.andThen_ok, e]) h
theorem gpick {s t d : Nat} (p : o.op = .pick (.tmp s) (.tmp t) (.const (.bool false))) (hd : o.dst = some d) (hs : s < N) (ht : t < N) (hlt : d < N) (hw : Region.wanted o (yielded ops (gF N f).tmps) = true) (es : f s = .bool true) (et : f t = .bool true) (ed : f d = .bool true) (h : AllS Sw ops (gF N f) l) : AllS Sw ops (gF N f) (o :: l) :=
  gl hd hlt hw (fun w _ => by rw [ed]; exact pick_t _ _ _ _ p ((gF_at f hs).trans es) ((gF_at f ht).trans et) w) h
theorem geq {s t d : Nat} {S : ByteArray} {r : TypeId} (p : o.op = .binOp .eql 9 (.tmp s) (.tmp t) r) (hd : o.dst = some d) (hs : s < N) (ht : t < N) (hlt : d < N) (hw : Region.wanted o (yielded ops (gF N f).tmps) = true) (es : f s = .string S) (et : f t = .string S) (ed : f d = .bool true) (h : AllS Sw ops (gF N f) l) : AllS Sw ops (gF N f) (o :: l) :=
  gl hd hlt hw (fun w _ => by
    have e1 := (gF_at f hs).trans es
    have e2 := (gF_at f ht).trans et
    rw [ed]
    unfold execOp
    simp only [p, e1, e2]
    simp [go_sem]) h
end
theorem few_len {R : Nat → List (List Value)} (h : ∀ j, j < 14 → (R j).length * szJ j ≤ 1048576) : ∀ j, j < 14 → (R j).length ≤ 2000000 := by
  intro j hj
  have h1 := h j hj
  have h2 : 1 ≤ szJ j := by
    have : j = 0 ∨ j = 1 ∨ j = 2 ∨ j = 3 ∨ j = 4 ∨ j = 5 ∨ j = 6 ∨ j = 7 ∨ j = 8 ∨ j = 9 ∨ j = 10 ∨ j = 11 ∨ j = 12 ∨ j = 13 := by omega
    rcases this with rfl | rfl | rfl | rfl | rfl | rfl | rfl | rfl | rfl | rfl | rfl | rfl | rfl | rfl <;> decide
  have h3 : (R j).length * 1 ≤ (R j).length * szJ j := Nat.mul_le_mul_left _ h2
  omega
/-- What the slots of the law's last region hold at its end. -/
def fL (a : Act) (cs vs cm : List Value) (SB CB : ByteArray) (t : Nat) : Value :=
  if t < 17 ∧ t ≠ 4 then a.eval (.tmp t)
  else if t = 17 ∨ t = 30 then .agg cs.toArray else if t = 19 ∨ t = 31 then .agg vs.toArray else if t = 23 ∨ t = 25 then .agg cm.toArray
  else if t = 18 ∨ t = 20 then .string SB else if t = 24 ∨ t = 26 then .string CB else .bool true
def opsLw : Code → Array Oper
  | .region _ o _ => o
  | .seq a b => if (opsLw a).size = 21 then opsLw a else opsLw b
  | .cond _ a b => if (opsLw a).size = 21 then opsLw a else opsLw b
  | _ => #[]
theorem cells_of {b : Nat} {T : TypeId} {xs : List Value} {W : World} (h : Cs b T xs W) : ∀ w, Below W.drew.heap.size W.drew w → ∀ q v, xs[q]? = some v → w.cell? ⟨b, q, none⟩ = some v := fun w hw q v hv => by
  rw [hw.cell (p := ⟨b, q, none⟩) h.lt]
  exact (h.cell q).trans hv
theorem res_La {a : Act} {w : World} {v : Value} (e2 : a.eval (.tmp 4) = v) : (results Tryz.f3 a.tmps).run Tryz.prog w = .ok v w := by
  have er : Tryz.f3.results = #[.tmp 4] := rfl
  unfold results
  rw [er]
  have e2' : a.tmps[4]?.getD undef = v := by rw [← e2]; simp [Act.eval, Array.getD_eq_getD_getElem?]
  simp [Sem.run_bind, e2']
theorem size_cmdL : (Tryz.prog.info? 41).map (·.size) = some 3 := by kernel_rfl
/-- The last region. -/
theorem last_region {cs vs cm : List Value} {op : Int} {E1 E2 : Option Addr} {e1 e2 : Nat} {R : Nat → List (List Value)} {R1 R2 : List (List Value)} {z : Int} {hb ob : Nat} {a : Act} {W : World} {Q : Exit → Act → World → Prop} {ops : Array Oper} {id : Nat} {o0 o1 o2 o3 o4 o5 o6 o7 o8 o9 o10 o11 o12 o13 o14 o15 o16 o17 o18 o19 o20 : Oper} (hops : ops = #[o0, o1, o2, o3, o4, o5, o6, o7, o8, o9, o10, o11, o12, o13, o14, o15, o16, o17, o18, o19, o20])
    (i0 : IsG o0 none (.load 37 (.tmp 5)) 17)
    (i1 : o1.guard = none ∧ (∃ tys, o1.op = .call { callee := .value (.func 8), args := #[.tmp 17], argTypes := tys }) ∧ o1.dst = some 18)
    (i2 : IsG o2 none (.load 37 (.tmp 2)) 19)
    (i3 : o3.guard = none ∧ (∃ tys, o3.op = .call { callee := .value (.func 9), args := #[.tmp 19], argTypes := tys }) ∧ o3.dst = some 20)
    (i4 : o4.guard = none ∧ (∃ r, o4.op = .binOp .eql 9 (.tmp 18) (.tmp 20) r) ∧ o4.dst = some 21)
    (i5 : IsG o5 none (.move (.tmp 21)) 22)
    (i6 : IsG o6 (some (5, true)) (.load 41 (.tmp 3)) 23)
    (i7 : o7.guard = some (5, true) ∧ (∃ tys, o7.op = .call { callee := .value (.func 10), args := #[.tmp 23], argTypes := tys }) ∧ o7.dst = some 24)
    (i8 : IsG o8 (some (5, true)) (.load 41 (.tmp 3)) 25)
    (i9 : o9.guard = some (5, true) ∧ (∃ tys, o9.op = .call { callee := .value (.func 11), args := #[.tmp 25], argTypes := tys }) ∧ o9.dst = some 26)
    (i10 : o10.guard = some (5, true) ∧ (∃ r, o10.op = .binOp .eql 9 (.tmp 24) (.tmp 26) r) ∧ o10.dst = some 27)
    (i11 : IsG o11 none (.pick (.tmp 22) (.tmp 27) (.const (.bool false))) 28)
    (i12 : IsG o12 none (.move (.tmp 28)) 29)
    (i13 : IsG o13 (some (12, true)) (.load 37 (.tmp 5)) 30)
    (i14 : IsG o14 (some (12, true)) (.load 37 (.tmp 2)) 31)
    (i15 : o15.guard = some (12, true) ∧ (∃ tys, o15.op = .call { callee := .value (.func 12), args := #[.tmp 30, .tmp 31], argTypes := tys }) ∧ o15.dst = some 32)
    (i16 : IsG o16 none (.pick (.tmp 29) (.tmp 32) (.const (.bool false))) 33)
    (i17 : IsG o17 none (.move (.tmp 33)) 34)
    (i18 : o18.guard = some (17, true) ∧ (∃ tys, o18.op = .call { callee := .value (.func 6), args := #[], argTypes := tys }) ∧ o18.dst = some 35)
    (i19 : IsG o19 none (.pick (.tmp 34) (.tmp 35) (.const (.bool false))) 36)
    (i20 : IsG o20 none (.assign (.tmp 36)) 4)
    (hchk : chkB 17 4 0 ops.toList = true) (hza : a.tmps.size = 37) (h2 : a.eval (.tmp 2) = .pointer (some ⟨hb, 0, none⟩)) (h3 : a.eval (.tmp 3) = .pointer (some ⟨hb + 1, 0, none⟩)) (h5 : a.eval (.tmp 5) = .pointer (some ⟨ob, 0, none⟩))
    (gh : Cs hb 37 vs W) (gc : Cs (hb + 1) 41 cm W) (go : Cs ob 37 cs W) (hcm : cm = [.int .i64 op, .slice E1 R1.length e1, .slice E2 R2.length e2])
    (hA : HouseA W vs R z) (hO : LentA W cs R z) (hlen : (encHouse R z).length ≤ 100000000) (h1r : RowA W E1 1 ks_str e1 R1) (h2r : RowA W E2 1 ks_int e2 R2) (hc : (enc_cmd R1 R2 op).length ≤ 100000000)
    (hQ : ∀ a' w', Below W.drew.heap.size W.drew w' → a'.defers = a.defers → a'.eval (.tmp 4) = .bool true → Q .normal a' w') : (Code.region id ops true).wp Tryz.prog Q a W := by
  obtain ⟨f, hf⟩ : ∃ f, f = fL a cs vs cm ⟨(encHouse R z).toArray⟩ ⟨(enc_cmd R1 R2 op).toArray⟩ := ⟨_, rfl⟩
  have hn : ops.size = 21 := by rw [hops]; rfl
  have low : ∀ t : Nat, t < 17 → t ≠ 4 → f t = a.eval (.tmp t) := fun t h1 h2 => by rw [hf]; unfold fL; rw [if_pos ⟨h1, h2⟩]
  have f2 := (low 2 (by decide) (by decide)).trans h2
  have f3 := (low 3 (by decide) (by decide)).trans h3
  have f5 := (low 5 (by decide) (by decide)).trans h5
  have f4 : f 4 = .bool true := by rw [hf]; rfl
  have f17 : f 17 = .agg cs.toArray := by rw [hf]; rfl
  have f18 : f 18 = .string ⟨(encHouse R z).toArray⟩ := by rw [hf]; rfl
  have f19 : f 19 = .agg vs.toArray := by rw [hf]; rfl
  have f20 : f 20 = .string ⟨(encHouse R z).toArray⟩ := by rw [hf]; rfl
  have f21 : f 21 = .bool true := by rw [hf]; rfl
  have f22 : f 22 = .bool true := by rw [hf]; rfl
  have f23 : f 23 = .agg cm.toArray := by rw [hf]; rfl
  have f24 : f 24 = .string ⟨(enc_cmd R1 R2 op).toArray⟩ := by rw [hf]; rfl
  have f25 : f 25 = .agg cm.toArray := by rw [hf]; rfl
  have f26 : f 26 = .string ⟨(enc_cmd R1 R2 op).toArray⟩ := by rw [hf]; rfl
  have f27 : f 27 = .bool true := by rw [hf]; rfl
  have f28 : f 28 = .bool true := by rw [hf]; rfl
  have f29 : f 29 = .bool true := by rw [hf]; rfl
  have f30 : f 30 = .agg cs.toArray := by rw [hf]; rfl
  have f31 : f 31 = .agg vs.toArray := by rw [hf]; rfl
  have f32 : f 32 = .bool true := by rw [hf]; rfl
  have f33 : f 33 = .bool true := by rw [hf]; rfl
  have f34 : f 34 = .bool true := by rw [hf]; rfl
  have f35 : f 35 = .bool true := by rw [hf]; rfl
  have f36 : f 36 = .bool true := by rw [hf]; rfl
  clear hf
  have wt : ∀ (o : Oper) (g : Nat), o.guard = some (g, true) → g + 1 < 21 → f (17 + g) = .bool true → Region.wanted o (yielded ops (gF 37 f).tmps) = true := fun o g hg h1 hv => wantedT hchk hg (by rw [hn]; exact h1) (by rw [gF_size]; omega) (by rw [gF_at f (by omega)]; exact hv)
  have sh : (Tryz.prog.info? 37).map (·.size) = some 15 := size_ofP info_houseL
  have hlv := hA.len
  have hlc := hO.len
  have bel : ∀ w, Below W.drew.heap.size W.drew w → Below W.heap.size W w := fun w hw => (Below.refl _ W).drew.trans hw
  have lift : ∀ (w w' : World), Below W.drew.heap.size W.drew w → Below w.heap.size w w' → Below W.drew.heap.size W.drew w' := fun w w' h k => h.trans (k.mono h.size)
  have dd : ∀ t : Nat, (gF 37 f).tmps[t]?.getD undef = (gF 37 f).eval (.tmp t) := fun t => by simp [Act.eval, Array.getD_eq_getD_getElem?]
  refine fix_region (S := Below W.drew.heap.size W.drew) (lo := 17) (r := 4) (F := gF 37 f) (by kernel_rfl) hchk (by decide) (by rw [gF_size]; decide) (by rw [hn, gF_size]; decide) (Below.refl _ _) (by rw [hza, gF_size]) (fun t ht hr => ?_) (fun i o ho => AllS.at_ (l := ops.toList) ?_ i o (by simpa using ho)) fun a' w' hS' hz' hd' hv' => ?_
  · rw [gF_at f (by omega)]
    exact (low t ht hr).symm
  · rw [hops]
    rw [hops] at wt
    refine gld (b := ob) (xs := cs) i0.2.1 i0.2.2 (by decide) (by decide) (wantedN i0.1) f5 f17 Tryz.underlying37 rfl (by rw [hlc]; exact sh) (cells_of go) ?_
    obtain ⟨g1, ⟨ty1, p1⟩, d1⟩ := i1
    refine gcall (vals := #[.agg cs.toArray]) (fn := 8) d1 (by decide) (wantedN g1) (fun w1 => by have e := dd 17; rw [gF_at f (by decide), f17] at e; unfold execOp; simp [go_sem, p1, e]) (fun w1 hw => ?_) ?_
    · rw [f18]
      exact (bytes_any (hO.house.below (bel w1 hw)) (Nat.le_trans hlen (by decide))).mono fun e w2 h => ⟨h.1, lift _ _ hw h.2⟩
    refine gld (b := hb) (xs := vs) i2.2.1 i2.2.2 (by decide) (by decide) (wantedN i2.1) f2 f19 Tryz.underlying37 rfl (by rw [hlv]; exact sh) (cells_of gh) ?_
    obtain ⟨g3, ⟨ty3, p3⟩, d3⟩ := i3
    refine gcall (vals := #[.agg vs.toArray]) (fn := 9) d3 (by decide) (wantedN g3) (fun w1 => by have e := dd 19; rw [gF_at f (by decide), f19] at e; unfold execOp; simp [go_sem, p3, e]) (fun w1 hw => ?_) ?_
    · rw [f20]
      exact (rbytes_any (hA.below (bel w1 hw)) hlen).mono fun e w2 h => ⟨h.1, lift _ _ hw h.2⟩
    obtain ⟨g4, ⟨ty4, p4⟩, d4⟩ := i4
    refine geq p4 d4 (by decide) (by decide) (by decide) (wantedN g4) f18 f20 f21 ?_
    refine gmv (.inl i5.2.1) i5.2.2 (by decide) (by decide) (wantedN i5.1) (f22.trans f21.symm) ?_
    refine gld (b := hb + 1) (xs := cm) i6.2.1 i6.2.2 (by decide) (by decide) (wt _ 5 i6.1 (by decide) f22) f3 f23 Tryz.underlying41 rfl (by rw [hcm]; exact size_cmdL) (cells_of gc) ?_
    obtain ⟨g7, ⟨ty7, p7⟩, d7⟩ := i7
    refine gcall (vals := #[.agg cm.toArray]) (fn := 10) d7 (by decide) (wt _ 5 g7 (by decide) f22) (fun w1 => by have e := dd 23; rw [gF_at f (by decide), f23] at e; unfold execOp; simp [go_sem, p7, e]) (fun w1 hw => ?_) ?_
    · rw [f24, hcm]
      exact (cmdBytes_any (op := op) (h1r.below (bel w1 hw)) (h2r.below (bel w1 hw)) (Nat.le_trans hc (by decide))).mono fun e w2 h => ⟨h.1, lift _ _ hw h.2⟩
    refine gld (b := hb + 1) (xs := cm) i8.2.1 i8.2.2 (by decide) (by decide) (wt _ 5 i8.1 (by decide) f22) f3 f25 Tryz.underlying41 rfl (by rw [hcm]; exact size_cmdL) (cells_of gc) ?_
    obtain ⟨g9, ⟨ty9, p9⟩, d9⟩ := i9
    refine gcall (vals := #[.agg cm.toArray]) (fn := 11) d9 (by decide) (wt _ 5 g9 (by decide) f22) (fun w1 => by have e := dd 25; rw [gF_at f (by decide), f25] at e; unfold execOp; simp [go_sem, p9, e]) (fun w1 hw => ?_) ?_
    · rw [f26, hcm]
      exact (rcmdBytes_any (op := op) (h1r.below (bel w1 hw)) (h2r.below (bel w1 hw)) (Nat.le_trans hc (by decide))).mono fun e w2 h => ⟨h.1, lift _ _ hw h.2⟩
    obtain ⟨g10, ⟨ty10, p10⟩, d10⟩ := i10
    refine geq p10 d10 (by decide) (by decide) (by decide) (wt _ 5 g10 (by decide) f22) f24 f26 f27 ?_
    refine gpick i11.2.1 i11.2.2 (by decide) (by decide) (by decide) (wantedN i11.1) f22 f27 f28 ?_
    refine gmv (.inl i12.2.1) i12.2.2 (by decide) (by decide) (wantedN i12.1) (f29.trans f28.symm) ?_
    refine gld (b := ob) (xs := cs) i13.2.1 i13.2.2 (by decide) (by decide) (wt _ 12 i13.1 (by decide) f29) f5 f30 Tryz.underlying37 rfl (by rw [hlc]; exact sh) (cells_of go) ?_
    refine gld (b := hb) (xs := vs) i14.2.1 i14.2.2 (by decide) (by decide) (wt _ 12 i14.1 (by decide) f29) f2 f31 Tryz.underlying37 rfl (by rw [hlv]; exact sh) (cells_of gh) ?_
    obtain ⟨g15, ⟨ty15, p15⟩, d15⟩ := i15
    refine gcall (vals := #[.agg cs.toArray, .agg vs.toArray]) (fn := 12) d15 (by decide) (wt _ 12 g15 (by decide) f29) (fun w1 => by have e := dd 30; rw [gF_at f (by decide), f30] at e; have e' := dd 31; rw [gF_at f (by decide), f31] at e'; unfold execOp; simp [go_sem, p15, e, e']) (fun w1 hw => ?_) ?_
    · rw [f32]
      exact (Kept_any (hO.below (bel w1 hw)) (hA.below (bel w1 hw))).mono fun e w2 h => ⟨h.1, lift _ _ hw h.2⟩
    refine gpick i16.2.1 i16.2.2 (by decide) (by decide) (by decide) (wantedN i16.1) f29 f32 f33 ?_
    refine gmv (.inl i17.2.1) i17.2.2 (by decide) (by decide) (wantedN i17.1) (f34.trans f33.symm) ?_
    obtain ⟨g18, ⟨ty18, p18⟩, d18⟩ := i18
    refine gcall (vals := #[]) (fn := 6) d18 (by decide) (wt _ 17 g18 (by decide) f34) (fun w1 => by unfold execOp; simp [go_sem, p18]) (fun w1 hw => ?_) ?_
    · rw [f35]
      exact (awake_any w1).mono fun e w2 h => ⟨h.1, lift _ _ hw h.2⟩
    refine gpick i19.2.1 i19.2.2 (by decide) (by decide) (by decide) (wantedN i19.1) f34 f35 f36 ?_
    exact gmv (.inr i20.2.1) i20.2.2 (by decide) (by decide) (wantedN i20.1) (f4.trans f36.symm) trivial
  · have e4 := hv' 20 o20 (by rw [hops]; rfl) 4 i20.2.2
    rw [gF_at f (by decide), f4] at e4
    exact hQ a' w' hS' hd' e4
set_option maxHeartbeats 16000000 in
set_option maxRecDepth 100000 in
theorem lays_go {A0 A1 A2 A3 A4 A5 A6 A7 A8 A9 A10 A11 A12 A13 E1 E2 : Option Addr} {c0 c1 c2 c3 c4 c5 c6 c7 c8 c9 c10 c11 c12 c13 e1 e2 : Nat} {R : Nat → List (List Value)} {R1 R2 : List (List Value)} {z op : Int} {w : World} (hA : HouseA w [.slice A0 (R 0).length c0, .slice A1 (R 1).length c1, .slice A2 (R 2).length c2, .slice A3 (R 3).length c3, .slice A4 (R 4).length c4, .slice A5 (R 5).length c5, .slice A6 (R 6).length c6, .slice A7 (R 7).length c7, .slice A8 (R 8).length c8, .slice A9 (R 9).length c9, .slice A10 (R 10).length c10, .slice A11 (R 11).length c11, .slice A12 (R 12).length c12, .slice A13 (R 13).length c13, .int .i64 z] R z) (hlen : (encHouse R z).length ≤ 100000000) (hcl : ∀ j, j < 14 → (R j).length * szJ j ≤ 1048576)
    (h1 : RowA w E1 1 ks_str e1 R1) (h2 : RowA w E2 1 ks_int e2 R2) (hc : (enc_cmd R1 R2 op).length ≤ 100000000) :
    Calls Tryz.prog 3 #[.agg #[.slice A0 (R 0).length c0, .slice A1 (R 1).length c1, .slice A2 (R 2).length c2, .slice A3 (R 3).length c3, .slice A4 (R 4).length c4, .slice A5 (R 5).length c5, .slice A6 (R 6).length c6, .slice A7 (R 7).length c7, .slice A8 (R 8).length c8, .slice A9 (R 9).length c9, .slice A10 (R 10).length c10, .slice A11 (R 11).length c11, .slice A12 (R 12).length c12, .slice A13 (R 13).length c13, .int .i64 z], .agg #[.int .i64 op, .slice E1 R1.length e1, .slice E2 R2.length e2]] w (YesB w) := by
  have FW := Aside0.mk (fun (w : World) (k1 : RowA w E1 1 ks_str e1 R1) (k2 : RowA w E2 1 ks_int e2 R2) => few_any (op := op) k1 k2 (Nat.le_trans hc (by decide)))
  have SM := Aside0.mk (fun (w' : World) => small_any (w := w') hA)
  have LE := Aside0.mk (fun (w' : World) (k : HouseA w' [.slice A0 (R 0).length c0, .slice A1 (R 1).length c1, .slice A2 (R 2).length c2, .slice A3 (R 3).length c3, .slice A4 (R 4).length c4, .slice A5 (R 5).length c5, .slice A6 (R 6).length c6, .slice A7 (R 7).length c7, .slice A8 (R 8).length c8, .slice A9 (R 9).length c9, .slice A10 (R 10).length c10, .slice A11 (R 11).length c11, .slice A12 (R 12).length c12, .slice A13 (R 13).length c13, .int .i64 z] R z) => Lent_any k (few_len hcl))
  have HA := Aside0.mk hA
  have HR := Aside0.mk (And.intro h1 h2)
  have HL := Aside0.mk (And.intro hlen hc)
  clear hA hlen hcl h1 h2 hc
  go_enter Tryz.func3, Tryz.ntmps3
  go_wp2_with (fail)
  obtain ⟨W, hW⟩ : ∃ W, W = (w.alloc (.cells #[.slice A0 (R 0).length c0, .slice A1 (R 1).length c1, .slice A2 (R 2).length c2, .slice A3 (R 3).length c3, .slice A4 (R 4).length c4, .slice A5 (R 5).length c5, .slice A6 (R 6).length c6, .slice A7 (R 7).length c7, .slice A8 (R 8).length c8, .slice A9 (R 9).length c9, .slice A10 (R 10).length c10, .slice A11 (R 11).length c11, .slice A12 (R 12).length c12, .slice A13 (R 13).length c13, .int .i64 z] 37)).alloc (.cells #[.int .i64 op, .slice E1 R1.length e1, .slice E2 R2.length e2] 41) := ⟨_, rfl⟩
  have HB0 : Aside0 (Below w.heap.size w W) := ⟨by rw [hW]; exact ((Below.refl _ w).alloc (Nat.le_refl _) _).alloc (by simp) _⟩
  have gh : Cs w.heap.size 37 [.slice A0 (R 0).length c0, .slice A1 (R 1).length c1, .slice A2 (R 2).length c2, .slice A3 (R 3).length c3, .slice A4 (R 4).length c4, .slice A5 (R 5).length c5, .slice A6 (R 6).length c6, .slice A7 (R 7).length c7, .slice A8 (R 8).length c8, .slice A9 (R 9).length c9, .slice A10 (R 10).length c10, .slice A11 (R 11).length c11, .slice A12 (R 12).length c12, .slice A13 (R 13).length c13, .int .i64 z] W := by rw [hW]; exact Cs.keep (cs_alloc w _ _ _ rfl) ((alloc_below _ _).block _ (by simp))
  have gc : Cs (w.heap.size + 1) 41 [.int .i64 op, .slice E1 R1.length e1, .slice E2 R2.length e2] W := by
    rw [hW]
    have := cs_alloc (w.alloc (.cells #[.slice A0 (R 0).length c0, .slice A1 (R 1).length c1, .slice A2 (R 2).length c2, .slice A3 (R 3).length c3, .slice A4 (R 4).length c4, .slice A5 (R 5).length c5, .slice A6 (R 6).length c6, .slice A7 (R 7).length c7, .slice A8 (R 8).length c8, .slice A9 (R 9).length c9, .slice A10 (R 10).length c10, .slice A11 (R 11).length c11, .slice A12 (R 12).length c12, .slice A13 (R 13).length c13, .int .i64 z] 37)) #[.int .i64 op, .slice E1 R1.length e1, .slice E2 R2.length e2] 41 [.int .i64 op, .slice E1 R1.length e1, .slice E2 R2.length e2] rfl
    rwa [show (w.alloc (.cells #[.slice A0 (R 0).length c0, .slice A1 (R 1).length c1, .slice A2 (R 2).length c2, .slice A3 (R 3).length c3, .slice A4 (R 4).length c4, .slice A5 (R 5).length c5, .slice A6 (R 6).length c6, .slice A7 (R 7).length c7, .slice A8 (R 8).length c8, .slice A9 (R 9).length c9, .slice A10 (R 10).length c10, .slice A11 (R 11).length c11, .slice A12 (R 12).length c12, .slice A13 (R 13).length c13, .int .i64 z] 37)).heap.size = w.heap.size + 1 by simp] at this
  have G0 := Aside0.mk (And.intro gh gc)
  rw [← hW]
  clear hW gh gc
  -- Small
  refine (SM.out _).mono ?_
  rintro e w1 ⟨hr, hb⟩
  have HB1 := Aside0.mk (HB0.out.trans (hb.mono HB0.out.size))
  have G1 : Aside0 (Cs w.heap.size 37 [.slice A0 (R 0).length c0, .slice A1 (R 1).length c1, .slice A2 (R 2).length c2, .slice A3 (R 3).length c3, .slice A4 (R 4).length c4, .slice A5 (R 5).length c5, .slice A6 (R 6).length c6, .slice A7 (R 7).length c7, .slice A8 (R 8).length c8, .slice A9 (R 9).length c9, .slice A10 (R 10).length c10, .slice A11 (R 11).length c11, .slice A12 (R 12).length c12, .slice A13 (R 13).length c13, .int .i64 z] w1 ∧ Cs (w.heap.size + 1) 41 [.int .i64 op, .slice E1 R1.length e1, .slice E2 R2.length e2] w1) := ⟨Cs.keep G0.out.1 (hb.block _ G0.out.1.lt), Cs.keep G0.out.2 (hb.block _ G0.out.2.lt)⟩
  clear hb HB0 G0
  rcases hr with rfl | rfl
  rotate_left
  · as_aux_lemma =>
    clear G1
    go_wp2_with (fail)
    refine (awake_any _).mono ?_
    rintro e wz ⟨rfl, hb⟩
    go_wp2
    go_ret
    exact ⟨rfl, HB1.out.trans (hb.mono HB1.out.size)⟩
  have kc0 := G1.out.2.cell 0
  have kc1 := G1.out.2.cell 1
  have kc2 := G1.out.2.cell 2
  simp only [List.getElem?_cons_zero, List.getElem?_cons_succ] at kc0 kc1 kc2
  go_wp2_with (fail)
  clear kc0 kc1 kc2
  -- few
  refine (FW.out _ (HR.out.1.below HB1.out) (HR.out.2.below HB1.out)).mono ?_
  rintro e w2 ⟨hr, hb⟩
  have HB2 := Aside0.mk (HB1.out.trans (hb.mono HB1.out.size))
  have G2 : Aside0 (Cs w.heap.size 37 [.slice A0 (R 0).length c0, .slice A1 (R 1).length c1, .slice A2 (R 2).length c2, .slice A3 (R 3).length c3, .slice A4 (R 4).length c4, .slice A5 (R 5).length c5, .slice A6 (R 6).length c6, .slice A7 (R 7).length c7, .slice A8 (R 8).length c8, .slice A9 (R 9).length c9, .slice A10 (R 10).length c10, .slice A11 (R 11).length c11, .slice A12 (R 12).length c12, .slice A13 (R 13).length c13, .int .i64 z] w2 ∧ Cs (w.heap.size + 1) 41 [.int .i64 op, .slice E1 R1.length e1, .slice E2 R2.length e2] w2) := ⟨Cs.keep G1.out.1 (hb.block _ G1.out.1.lt), Cs.keep G1.out.2 (hb.block _ G1.out.2.lt)⟩
  clear hb HB1 G1
  rcases hr with rfl | rfl
  rotate_left
  · as_aux_lemma =>
    clear G2
    go_wp2_with (fail)
    refine (awake_any _).mono ?_
    rintro e wz ⟨rfl, hb⟩
    go_wp2
    go_ret
    exact ⟨rfl, HB2.out.trans (hb.mono HB2.out.size)⟩
  have kh0 := G2.out.1.cell 0
  have kh1 := G2.out.1.cell 1
  have kh2 := G2.out.1.cell 2
  have kh3 := G2.out.1.cell 3
  have kh4 := G2.out.1.cell 4
  have kh5 := G2.out.1.cell 5
  have kh6 := G2.out.1.cell 6
  have kh7 := G2.out.1.cell 7
  have kh8 := G2.out.1.cell 8
  have kh9 := G2.out.1.cell 9
  have kh10 := G2.out.1.cell 10
  have kh11 := G2.out.1.cell 11
  have kh12 := G2.out.1.cell 12
  have kh13 := G2.out.1.cell 13
  have kh14 := G2.out.1.cell 14
  simp only [List.getElem?_cons_zero, List.getElem?_cons_succ] at kh0 kh1 kh2 kh3 kh4 kh5 kh6 kh7 kh8 kh9 kh10 kh11 kh12 kh13 kh14
  go_wp2_with (fail)
  clear kh0 kh1 kh2 kh3 kh4 kh5 kh6 kh7 kh8 kh9 kh10 kh11 kh12 kh13 kh14
  -- Lent
  refine (LE.out _ (HA.out.below HB2.out)).mono ?_
  rintro e w3 ⟨cs, rfl, hO, hb⟩
  have HB3 := Aside0.mk (HB2.out.trans (hb.mono HB2.out.size))
  have G3 : Aside0 (Cs w.heap.size 37 [.slice A0 (R 0).length c0, .slice A1 (R 1).length c1, .slice A2 (R 2).length c2, .slice A3 (R 3).length c3, .slice A4 (R 4).length c4, .slice A5 (R 5).length c5, .slice A6 (R 6).length c6, .slice A7 (R 7).length c7, .slice A8 (R 8).length c8, .slice A9 (R 9).length c9, .slice A10 (R 10).length c10, .slice A11 (R 11).length c11, .slice A12 (R 12).length c12, .slice A13 (R 13).length c13, .int .i64 z] w3 ∧ Cs (w.heap.size + 1) 41 [.int .i64 op, .slice E1 R1.length e1, .slice E2 R2.length e2] w3) := ⟨Cs.keep G2.out.1 (hb.block _ G2.out.1.lt), Cs.keep G2.out.2 (hb.block _ G2.out.2.lt)⟩
  clear hb HB2 G2
  obtain ⟨D0, d0, D1, d1, D2, d2, D3, d3, D4, d4, D5, d5, D6, d6, D7, d7, D8, d8, D9, d9, D10, d10, D11, d11, D12, d12, D13, d13, rfl, -⟩ := hO.house.shape
  have HO := Aside0.mk hO
  clear hO
  go_wp2_with (fail)
  obtain ⟨W4, hW4⟩ : ∃ X, X = w3.alloc (.cells #[.slice D0 (R 0).length d0, .slice D1 (R 1).length d1, .slice D2 (R 2).length d2, .slice D3 (R 3).length d3, .slice D4 (R 4).length d4, .slice D5 (R 5).length d5, .slice D6 (R 6).length d6, .slice D7 (R 7).length d7, .slice D8 (R 8).length d8, .slice D9 (R 9).length d9, .slice D10 (R 10).length d10, .slice D11 (R 11).length d11, .slice D12 (R 12).length d12, .slice D13 (R 13).length d13, .int .i64 z] 37) := ⟨_, rfl⟩
  have HB4 : Below w.heap.size w W4 := by rw [hW4]; exact HB3.out.alloc HB3.out.size _
  have b34 : Below w3.heap.size w3 W4 := by rw [hW4]; exact alloc_below _ _
  have go4 : Cs w3.heap.size 37 [.slice D0 (R 0).length d0, .slice D1 (R 1).length d1, .slice D2 (R 2).length d2, .slice D3 (R 3).length d3, .slice D4 (R 4).length d4, .slice D5 (R 5).length d5, .slice D6 (R 6).length d6, .slice D7 (R 7).length d7, .slice D8 (R 8).length d8, .slice D9 (R 9).length d9, .slice D10 (R 10).length d10, .slice D11 (R 11).length d11, .slice D12 (R 12).length d12, .slice D13 (R 13).length d13, .int .i64 z] W4 := by rw [hW4]; exact cs_alloc _ _ _ _ rfl
  rw [← hW4]
  clear hW4
  refine last_region (hb := w.heap.size) (ob := w3.heap.size) (vs := [.slice A0 (R 0).length c0, .slice A1 (R 1).length c1, .slice A2 (R 2).length c2, .slice A3 (R 3).length c3, .slice A4 (R 4).length c4, .slice A5 (R 5).length c5, .slice A6 (R 6).length c6, .slice A7 (R 7).length c7, .slice A8 (R 8).length c8, .slice A9 (R 9).length c9, .slice A10 (R 10).length c10, .slice A11 (R 11).length c11, .slice A12 (R 12).length c12, .slice A13 (R 13).length c13, .int .i64 z]) (cs := [.slice D0 (R 0).length d0, .slice D1 (R 1).length d1, .slice D2 (R 2).length d2, .slice D3 (R 3).length d3, .slice D4 (R 4).length d4, .slice D5 (R 5).length d5, .slice D6 (R 6).length d6, .slice D7 (R 7).length d7, .slice D8 (R 8).length d8, .slice D9 (R 9).length d9, .slice D10 (R 10).length d10, .slice D11 (R 11).length d11, .slice D12 (R 12).length d12, .slice D13 (R 13).length d13, .int .i64 z]) (cm := [.int .i64 op, .slice E1 R1.length e1, .slice E2 R2.length e2]) (op := op) (R := R) (R1 := R1) (R2 := R2) (z := z) rfl ⟨rfl, rfl, rfl⟩ ⟨rfl, ⟨_, rfl⟩, rfl⟩ ⟨rfl, rfl, rfl⟩ ⟨rfl, ⟨_, rfl⟩, rfl⟩ ⟨rfl, ⟨_, rfl⟩, rfl⟩ ⟨rfl, rfl, rfl⟩ ⟨rfl, rfl, rfl⟩ ⟨rfl, ⟨_, rfl⟩, rfl⟩ ⟨rfl, rfl, rfl⟩ ⟨rfl, ⟨_, rfl⟩, rfl⟩ ⟨rfl, ⟨_, rfl⟩, rfl⟩ ⟨rfl, rfl, rfl⟩ ⟨rfl, rfl, rfl⟩ ⟨rfl, rfl, rfl⟩ ⟨rfl, rfl, rfl⟩ ⟨rfl, ⟨_, rfl⟩, rfl⟩ ⟨rfl, rfl, rfl⟩ ⟨rfl, rfl, rfl⟩ ⟨rfl, ⟨_, rfl⟩, rfl⟩ ⟨rfl, rfl, rfl⟩ ⟨rfl, rfl, rfl⟩ (by kernel_rfl) rfl rfl rfl rfl
    (Cs.keep G3.out.1 (b34.block _ G3.out.1.lt)) (Cs.keep G3.out.2 (b34.block _ G3.out.2.lt)) go4 rfl (HA.out.below HB4) (HO.out.below b34) HL.out.1 (HR.out.1.below HB4) (HR.out.2.below HB4) HL.out.2 fun a' w' hw' hd' h4' => ?_
  rename_i K hK
  exact hK a' w' (wp_ret ⟨hd', _, res_La h4', rfl, HB4.trans (((Below.refl _ W4).drew.trans hw').mono HB4.size)⟩)
theorem lays_walk (v u : Value) (w : World) (hv : HouseOk w v) (hu : CmdOk w u) : Calls Tryz.prog 3 #[v, u] w (YesB w) := by
  obtain ⟨vs, R, z, rfl, hA, hBk, hlen, hcl⟩ := hv
  obtain ⟨op, E1, e1, R1, E2, e2, R2, rfl, r1, r2, hc, _, _⟩ := hu
  obtain ⟨A0, c0, A1, c1, A2, c2, A3, c3, A4, c4, A5, c5, A6, c6, A7, c7, A8, c8, A9, c9, A10, c10, A11, c11, A12, c12, A13, c13, rfl, -⟩ := hA.shape
  exact lays_go hA hlen hcl r1 r2 hc
end Go.Proofs.YtgdoodeibcfcjaaGreat.Wire
