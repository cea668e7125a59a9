/- The reference's Bytes: what is read of a thing and spelt; what is appended; loops. Printed by bops.py. -/
import Derived.Test.YtgdoodeibcfcjaaGreatBLib
import Derived.Test.YtgdoodeibcfcjaaGreatCTherePure
import Derived.Test.YtgdoodeibcfcjaaGreatCBackPure
set_option linter.unusedVariables false
set_option linter.unusedSimpArgs false
namespace Go.Proofs.YtgdoodeibcfcjaaGreat.Wire
open Go.RowKit Go.Proofs.YtgdoodeibcfcjaaGreat.NumsPure Go.Proofs.YtgdoodeibcfcjaaGreat.CPure Go.Proofs.YtgdoodeibcfcjaaGreat.Own
open Go.Proofs.YtgdoodeibcfcjaaGreat.Put (digits digits_lt digits_ge)
/-! ### What is spelt -/
def Sz : Value → Prop
  | .string s => s.size ≤ 100000000
  | _ => True
/-- The bytes of some cells of a thing, one behind the other. -/
def sg (x : List Value) (o n : Nat) : List UInt8 := encs ((x.drop o).take n)
theorem sg_add (x : List Value) (o n m : Nat) : sg x o n ++ sg x (o + n) m = sg x o (n + m) := by
  unfold sg
  rw [← encs_append, List.take_add, List.drop_drop]
theorem sg_len (x : List Value) (o n : Nat) : (sg x o n).length ≤ (encs x).length := by
  have e : x = x.take o ++ ((x.drop o).take n ++ (x.drop o).drop n) := by rw [List.take_append_drop, List.take_append_drop]
  have h : (encs x).length = (encs (x.take o ++ ((x.drop o).take n ++ (x.drop o).drop n))).length := by rw [← e]
  rw [encs_append, encs_append] at h
  simp only [List.length_append] at h
  unfold sg
  omega
theorem sg_drop (x : List Value) (k o n : Nat) : sg (x.drop k) o n = sg x (k + o) n := by unfold sg; rw [List.drop_drop]
theorem sg_all (x : List Value) {n : Nat} (h : x.length = n) : sg x 0 n = encs x := by
  unfold sg
  rw [List.drop_zero, List.take_of_length_le (by omega)]
theorem sub_mem {x : List Value} {o n : Nat} {v : Value} (h : v ∈ (x.drop o).take n) : v ∈ x := List.mem_of_mem_drop (List.mem_of_mem_take h)
theorem sub_at {x : List Value} {o n m : Nat} {v : Value} (h : ((x.drop o).take n)[m]? = some v) : x[o + m]? = some v := by
  have hm : m < n := by
    have := (List.getElem?_eq_some_iff.1 h).1
    rw [List.length_take] at this
    omega
  rw [List.getElem?_take, if_pos hm, List.getElem?_drop] at h
  exact h
/-- A function that spells cells of these kinds. -/
structure FE (fn ty : Nat) (ks : List K) (val : List Value → Value) : Prop where
  cf : ∀ (u : Value) (w : World), (callFunc fn #[u]).run Tryz.prog w = .ok (.enter fn #[u]) w
  ld : ∀ (p : Addr) (w : World) (y : List Value), Fits ks y → (∀ m u, y[m]? = some u → w.cell? (p.add m) = some u) → (loadVar ty p).run Tryz.prog w = .ok (val y) w
  enc : ∀ (y : List Value) (w : World), Fits ks y → (∀ u ∈ y, Sz u) → Calls Tryz.prog fn #[val y] w fun e w' => e = .returned (.string ⟨(encs y).toArray⟩) ∧ Below w.heap.size w w'
theorem addr_add0 (p : Addr) : p.add 0 = p := by unfold Addr.add; split <;> simp_all
def val1 (y : List Value) : Value := y.headD undef
def valA (y : List Value) : Value := .agg y.toArray
theorem ld_one {ty : TypeId} (hag : ∀ w, (isAgg ty).run Tryz.prog w = .ok false w) {k : K} (p : Addr) (w : World) (y : List Value) (hf : Fits [k] y) (hc : ∀ m u, y[m]? = some u → w.cell? (p.add m) = some u) : (loadVar ty p).run Tryz.prog w = .ok (val1 y) w := by
  obtain ⟨v, r, rfl, _, hr⟩ := hf
  obtain rfl : r = [] := hr
  have h0 := hc 0 v rfl
  rw [addr_add0] at h0
  show _ = Result.ok v w
  simp [loadVar, Sem.run_bind, hag w, run_load, h0]
theorem ld_agg {ty : TypeId} {d : TypeDesc} {ks : List K} (hu : Tryz.prog.underlying ty = some d) (hd : d.isRow = true) (hi : (Tryz.prog.info? ty).map (·.size) = some ks.length) (p : Addr) (w : World) (y : List Value) (hf : Fits ks y) (hc : ∀ m u, y[m]? = some u → w.cell? (p.add m) = some u) : (loadVar ty p).run Tryz.prog w = .ok (valA y) w :=
  run_loadVar_at w p ty y d hc hu hd (by rw [fits_len hf]; exact hi)
section
variable {u : World} {Q : Act → Prop} {rest : List Oper} {a : Act} {d : Nat}
theorem call_s {fn s : Nat} {val v : Value} {tys : Array TypeId} {o : Oper} (g : o.guard = none) (p : o.op = .call { callee := .value (.func fn), args := #[.tmp s], argTypes := tys }) (hd : o.dst = some d) (hz : d < a.tmps.size) (hs : a.eval (.tmp s) = val) (hcf : ∀ w, (callFunc fn #[val]).run Tryz.prog w = .ok (.enter fn #[val]) w)
    (hc : ∀ w, Calls Tryz.prog fn #[val] w fun e w' => e = .returned v ∧ Below w.heap.size w w') (h : ∀ a', Lo d a a' → a'.eval (.tmp d) = v → wpHs (Below u.heap.size u) Q rest a') : wpHs (Below u.heap.size u) Q (o :: rest) a := by
  refine ⟨v, ⟨g, fun w hw => .inr ⟨fn, #[val], ?_, (hc w).mono fun e w' ⟨h1, h2⟩ => ⟨h1, hw.trans (h2.mono hw.size)⟩⟩⟩, ?_⟩
  · have hv : a.tmps[s]?.getD undef = val := by rw [← hs]; simp [Act.eval, Array.getD_eq_getD_getElem?]
    unfold execOp
    simp [go_sem, p, hv, hcf w]
  · rw [hd]
    exact h _ ((Lo.refl d a).put (d := d) v (Nat.le_refl _)) (put_same _ hz)
/-- A field, read and spelt. -/
structure FcOps (T s f d fn ty : Nat) (o1 o2 o3 : Oper) : Prop where
  g1 : o1.guard = none
  g2 : o2.guard = none
  g3 : o3.guard = none
  p1 : o1.op = .fieldAddr T (.tmp s) f
  p2 : o2.op = .load ty (.tmp d)
  p3 : ∃ tys, o3.op = .call { callee := .value (.func fn), args := #[.tmp (d + 1)], argTypes := tys }
  d1 : o1.dst = some d
  d2 : o2.dst = some (d + 1)
  d3 : o3.dst = some (d + 2)
theorem Lo.three {d : Nat} {a b c e : Act} (h1 : Lo d a b) (h2 : Lo (d + 1) b c) (h3 : Lo (d + 2) c e) : Lo d a e :=
  ⟨h3.size.trans (h2.size.trans h1.size), h3.defers.trans (h2.defers.trans h1.defers), fun s hs => (h3.low s (by omega)).trans ((h2.low s (by omega)).trans (h1.low s hs))⟩
theorem fc_s {T s f fn ty off : Nat} {ks : List K} {val : List Value → Value} {x : List Value} {b : Addr} {o1 o2 o3 : Oper} (hE : FE fn ty ks val) (ho : FcOps T s f d fn ty o1 o2 o3) (hz : d + 2 < a.tmps.size) (hs : a.eval (.tmp s) = .pointer (some b))
    (hfa : ∀ (b : Addr) w, (Instr.fieldAt T (.pointer (some b)) f).run Tryz.prog w = .ok (.pointer (some (b.add off))) w) {kx : List K} (hfx : Fits kx x) (hke : (kx.drop off).take ks.length = ks) (hsz : ∀ v ∈ x, Sz v) (hc : ∀ m v, x[m]? = some v → ∀ w, Below u.heap.size u w → w.cell? (b.add m) = some v)
    (h : ∀ a', Lo d a a' → a'.eval (.tmp (d + 2)) = .string ⟨(sg x off ks.length).toArray⟩ → wpHs (Below u.heap.size u) Q rest a') : wpHs (Below u.heap.size u) Q (o1 :: o2 :: o3 :: rest) a := by
  have hks : Fits ks ((x.drop off).take ks.length) := by
    have := fits_take ks.length (fits_drop off hfx)
    rw [hke] at this
    exact this
  refine fa_c (F := fun l a => wpHs (Below u.heap.size u) Q l a) runs_s ho.g1 ho.p1 ho.d1 (by omega) hs (hfa b) fun a1 l1 v1 => ?_
  have hld : ∀ w, Below u.heap.size u w → (loadVar ty (b.add off)).run Tryz.prog w = .ok (val ((x.drop off).take ks.length)) w := fun w hw => hE.ld _ w _ hks fun m v hv => by rw [add_of_add]; exact hc _ _ (sub_at hv) w hw
  refine out (F := fun l a => wpHs (Below u.heap.size u) Q l a) runs_s ho.g2 ho.d2 (by rw [l1.size]; omega) (val ((x.drop off).take ks.length)) (fun w hw => by unfold execOp; simp only [ho.p2, v1, Instr.loadAt, Instr.sureAddr, Sem.run_bind, Sem.run_pure, Result.andThen_ok, hld w hw]) fun a2 l2 v2 => ?_
  obtain ⟨tys, p3⟩ := ho.p3
  refine call_s ho.g3 p3 ho.d3 (by rw [l2.size, l1.size]; omega) v2 (hE.cf _) (fun w => hE.enc _ w hks fun v hv => hsz v (sub_mem hv)) fun a3 l3 v3 => ?_
  exact h a3 (l1.three l2 l3) v3
/-- A load, and its spelling. -/
theorem lc_s {fn ty s t off : Nat} {ks : List K} {val : List Value → Value} {x : List Value} {b : Addr} {tys : Array TypeId} {o2 o3 : Oper} (hE : FE fn ty ks val) (g2 : o2.guard = none) (p2 : o2.op = .load ty (.tmp s)) (d2 : o2.dst = some t) (g3 : o3.guard = none) (p3 : o3.op = .call { callee := .value (.func fn), args := #[.tmp t], argTypes := tys }) (d3 : o3.dst = some (t + 1)) (hz : t + 1 < a.tmps.size) (hs : a.eval (.tmp s) = .pointer (some (b.add off)))
    {kx : List K} (hfx : Fits kx x) (hke : (kx.drop off).take ks.length = ks) (hsz : ∀ v ∈ x, Sz v) (hc : ∀ m v, x[m]? = some v → ∀ w, Below u.heap.size u w → w.cell? (b.add m) = some v)
    (h : ∀ a', Lo t a a' → a'.eval (.tmp (t + 1)) = .string ⟨(sg x off ks.length).toArray⟩ → wpHs (Below u.heap.size u) Q rest a') : wpHs (Below u.heap.size u) Q (o2 :: o3 :: rest) a := by
  have hks : Fits ks ((x.drop off).take ks.length) := by
    have := fits_take ks.length (fits_drop off hfx)
    rw [hke] at this
    exact this
  have hld : ∀ w, Below u.heap.size u w → (loadVar ty (b.add off)).run Tryz.prog w = .ok (val ((x.drop off).take ks.length)) w := fun w hw => hE.ld _ w _ hks fun m v hv => by rw [add_of_add]; exact hc _ _ (sub_at hv) w hw
  refine out (F := fun l a => wpHs (Below u.heap.size u) Q l a) runs_s g2 d2 (by omega) (val ((x.drop off).take ks.length)) (fun w hw => by unfold execOp; simp only [p2, hs, Instr.loadAt, Instr.sureAddr, Sem.run_bind, Sem.run_pure, Result.andThen_ok, hld w hw]) fun a2 l2 v2 => ?_
  refine call_s g3 p3 d3 (by rw [l2.size]; omega) v2 (hE.cf _) (fun w => hE.enc _ w hks fun v hv => hsz v (sub_mem hv)) fun a3 l3 v3 => ?_
  exact h a3 ⟨l3.size.trans l2.size, l3.defers.trans l2.defers, fun s hs => (l3.low s (by omega)).trans (l2.low s hs)⟩ v3
theorem add_s {sx sy off n m : Nat} {r : TypeId} {x : List Value} {o : Oper} (g : o.guard = none) (p : o.op = .binOp .add 9 (.tmp sx) (.tmp sy) r) (hd : o.dst = some d) (hz : d < a.tmps.size) (hX : a.eval (.tmp sx) = .string ⟨(sg x off n).toArray⟩) (hY : a.eval (.tmp sy) = .string ⟨(sg x (off + n) m).toArray⟩) (hl : (encs x).length ≤ 1000000000000)
    (h : ∀ a', Lo d a a' → a'.eval (.tmp d) = .string ⟨(sg x off (n + m)).toArray⟩ → wpHs (Below u.heap.size u) Q rest a') : wpHs (Below u.heap.size u) Q (o :: rest) a := by
  have h1 := sg_len x off n
  have h2 := sg_len x (off + n) m
  obtain ⟨A, hA⟩ : ∃ A : ByteArray, A = ⟨(sg x off n).toArray⟩ := ⟨_, rfl⟩
  obtain ⟨B, hB⟩ : ∃ B : ByteArray, B = ⟨(sg x (off + n) m).toArray⟩ := ⟨_, rfl⟩
  have e : A ++ B = ⟨(sg x off (n + m)).toArray⟩ := by rw [hA, hB, ByteArray.mk_append_mk, sg_add]
  have hAB : A.size + B.size ≤ 9223372036854775807 := by rw [hA, hB, size_mk, size_mk]; omega
  rw [← hA] at hX
  rw [← hB] at hY
  have hrun : ∀ w, (binOp .add 9 (.string A) (.string B)).run Tryz.prog w = .ok (.string (A ++ B)) w := fun w => by
    have := run_string_add_sum (P := Tryz.prog) w A B hAB
    simpa [binOp] using this
  refine out (F := fun l a => wpHs (Below u.heap.size u) Q l a) runs_s g hd hz (.string (A ++ B)) (fun w _ => by unfold execOp; simp only [p, hX, hY]; simp [eqGuard, hrun]) fun a1 l1 v1 => ?_
  rw [e] at v1
  exact h a1 l1 v1
end
structure PF (hb : Nat) (v : Value) (a : Act) : Prop where
  size : a.tmps.size = 622
  defers : a.defers = []
  s1 : a.eval (.tmp 1) = .pointer (some ⟨hb, 0, none⟩)
  s3 : a.eval (.tmp 3) = v
theorem PF.lo {hb d : Nat} {v : Value} {a a' : Act} (h : PF hb v a) (l : Lo d a a') (hd : 4 ≤ d) : PF hb v a' := ⟨l.size.trans h.size, l.defers.trans h.defers, (l.low 1 (by omega)).trans h.s1, (l.low 3 (by omega)).trans h.s3⟩
theorem PF.put {hb d : Nat} {v : Value} {a : Act} (h : PF hb v a) (u : Value) (hd : 4 ≤ d) : PF hb v (a.put (some d) u) := ⟨(put_size _ _ _).trans h.size, (put_defers _ _ _).trans h.defers, (put_other u (by omega)).trans h.s1, (put_other u (by omega)).trans h.s3⟩
structure TtOps (S : TypeId) (j ct d : Nat) (o1 o2 o3 o4 : Oper) : Prop where
  g1 : o1.guard = none
  g2 : o2.guard = none
  g3 : o3.guard = none
  g4 : o4.guard = none
  p1 : o1.op = .fieldAddr 37 (.tmp 1) j
  p2 : o2.op = .load S (.tmp d)
  p3 : o3.op = .move (.tmp ct)
  p4 : o4.op = .indexAddr S (.tmp (d + 1)) (.tmp (d + 2))
  d1 : o1.dst = some d
  d2 : o2.dst = some (d + 1)
  d3 : o3.dst = some (d + 2)
  d4 : o4.dst = some (d + 3)
structure LP (S T : TypeId) (j sz : Nat) : Prop where
  fa : ∀ b w, (Instr.fieldAt 37 (.pointer (some ⟨b, 0, none⟩)) j).run Tryz.prog w = .ok (.pointer (some ⟨b, j, none⟩)) w
  ag : ∀ w, (isAgg S).run Tryz.prog w = .ok false w
  ix : ∀ (ad : Addr) (n c i : Nat) (w : World), i < n → (Instr.indexAt S (.slice (some ad) n c) (.int .i64 (i : Int))).run Tryz.prog w = .ok (.pointer (some (ad.add (i * sz)))) w
section
variable {Sw : World → Prop} {F : List Oper → Act → Prop} {rest : List Oper} {a : Act} {d : Nat}
theorem tt_c (hF : Runs Sw F) {S T : TypeId} {j sz ct hb n c i : Nat} {v : Value} {ad : Addr} {o1 o2 o3 o4 : Oper} (ho : TtOps S j ct d o1 o2 o3 o4) (hT : LP S T j sz) (hd : 27 ≤ d) (hz : d + 3 < 622) (hct : ct < 27) (hP : PF hb v a) (hc : a.eval (.tmp ct) = .int .i64 (i : Int)) (hi : i < n)
    (hl : ∀ w, Sw w → w.cell? ⟨hb, j, none⟩ = some (.slice (some ad) n c)) (h : ∀ a', Lo d a a' → a'.eval (.tmp (d + 3)) = .pointer (some (ad.add (i * sz))) → F rest a') : F (o1 :: o2 :: o3 :: o4 :: rest) a := by
  refine out hF ho.g1 ho.d1 (by rw [hP.size]; omega) (.pointer (some ⟨hb, j, none⟩)) (fun w _ => by unfold execOp; simp only [ho.p1, hP.s1, Sem.run_bind, hT.fa, Result.andThen_ok, Sem.run_pure]) fun a1 l1 v1 => ?_
  refine ld_c hF ho.g2 ho.p2 ho.d2 (by rw [l1.size, hP.size]; omega) v1 hT.ag hl fun a2 l2 v2 => ?_
  refine mv_c hF ho.g3 ho.p3 ho.d3 (by rw [l2.size, l1.size, hP.size]; omega) ((l2.low ct (by omega)).trans ((l1.low ct (by omega)).trans hc)) fun a3 l3 v3 => ?_
  refine ix_c hF ho.g4 ho.p4 ho.d4 (by rw [l3.size, l2.size, l1.size, hP.size]; omega) ((l3.low (d + 1) (by omega)).trans v2) v3 (fun w => hT.ix ad n c i w hi) fun a4 l4 v4 => ?_
  exact h a4 ⟨l4.size.trans (l3.size.trans (l2.size.trans l1.size)), l4.defers.trans (l3.defers.trans (l2.defers.trans l1.defers)), fun s hs => (l4.low s (by omega)).trans ((l3.low s (by omega)).trans ((l2.low s (by omega)).trans (l1.low s hs)))⟩ v4
end
theorem agg_int (w : World) : (isAgg 3).run Tryz.prog w = .ok false w := by simp [go_sem]
/-- A thing in a row, or in a block of its own; the slots that a body keeps. -/
structure Bm (hb : Nat) (v : Value) (ct i d0 e : Nat) (p : Value) (a : Act) : Prop where
  pf : PF hb v a
  c : a.eval (.tmp ct) = .int .i64 (i : Int)
  m : a.eval (.tmp d0) = v
  s : a.eval (.tmp e) = p
theorem Bm.lo {hb ct i d0 e d : Nat} {v p : Value} {a a' : Act} (h : Bm hb v ct i d0 e p a) (l : Lo d a a') (h1 : ct < d) (h2 : d0 < d) (h3 : e < d) (h4 : 4 ≤ d) : Bm hb v ct i d0 e p a' :=
  ⟨h.pf.lo l h4, (l.low _ h1).trans h.c, (l.low _ h2).trans h.m, (l.low _ h3).trans h.s⟩
section
variable {u : World} {Q : Act → Prop} {rest : List Oper} {a : Act} {d hb ct i d0 e : Nat} {v p : Value} {T f fn ty off : Nat} {ks : List K} {val : List Value → Value} {x : List Value}
/-- The first field of a thing in its block. -/
theorem bf_s {b : Addr} {o1 o2 o3 : Oper} (hE : FE fn ty ks val) (ho : FcOps T e f d fn ty o1 o2 o3) (hB : Bm hb v ct i d0 e (.pointer (some b)) a) (h1 : ct < 27) (h2 : 27 ≤ d0) (h3 : d0 < d) (h4 : e < 27) (hz : d + 2 < 622)
    (hfa : ∀ (b : Addr) w, (Instr.fieldAt T (.pointer (some b)) f).run Tryz.prog w = .ok (.pointer (some (b.add off))) w) {kx : List K} (hfx : Fits kx x) (hke : (kx.drop off).take ks.length = ks) (hsz : ∀ v ∈ x, Sz v) (hc : ∀ m v, x[m]? = some v → ∀ w, Below u.heap.size u w → w.cell? (b.add m) = some v)
    (h : ∀ a', Bm hb v ct i d0 e (.pointer (some b)) a' → a'.eval (.tmp (d + 2)) = .string ⟨(sg x off ks.length).toArray⟩ → wpHs (Below u.heap.size u) Q rest a') : wpHs (Below u.heap.size u) Q (o1 :: o2 :: o3 :: rest) a :=
  fc_s hE ho (by rw [hB.pf.size]; omega) hB.s hfa hfx hke hsz hc fun a' l v' => h a' (hB.lo l (by omega) h3 (by omega) (by omega)) v'
structure AdOps (sx sy d : Nat) (o : Oper) : Prop where
  g : o.guard = none
  p : ∃ r, o.op = .binOp .add 9 (.tmp sx) (.tmp sy) r
  d : o.dst = some d
/-- One more field, added. -/
theorem bfa_s {b : Addr} {o1 o2 o3 o4 : Oper} {sx o n : Nat} (hE : FE fn ty ks val) (ho : FcOps T e f d fn ty o1 o2 o3) (ha : AdOps sx (d + 2) (d + 3) o4) (hB : Bm hb v ct i d0 e (.pointer (some b)) a) (h1 : ct < 27) (h2 : 27 ≤ d0) (h3 : d0 < d) (h4 : e < 27) (hz : d + 3 < 622) (hsx : sx < d)
    (hX : a.eval (.tmp sx) = .string ⟨(sg x o n).toArray⟩) (hon : off = o + n) (hl : (encs x).length ≤ 1000000000000)
    (hfa : ∀ (b : Addr) w, (Instr.fieldAt T (.pointer (some b)) f).run Tryz.prog w = .ok (.pointer (some (b.add off))) w) {kx : List K} (hfx : Fits kx x) (hke : (kx.drop off).take ks.length = ks) (hsz : ∀ v ∈ x, Sz v) (hc : ∀ m v, x[m]? = some v → ∀ w, Below u.heap.size u w → w.cell? (b.add m) = some v)
    (h : ∀ a', Bm hb v ct i d0 e (.pointer (some b)) a' → a'.eval (.tmp (d + 3)) = .string ⟨(sg x o (n + ks.length)).toArray⟩ → wpHs (Below u.heap.size u) Q rest a') : wpHs (Below u.heap.size u) Q (o1 :: o2 :: o3 :: o4 :: rest) a := by
  subst hon
  refine fc_s hE ho (by rw [hB.pf.size]; omega) hB.s hfa hfx hke hsz hc fun a1 l1 v1 => ?_
  have hB1 := hB.lo l1 (by omega) h3 (by omega) (by omega)
  obtain ⟨r, pr⟩ := ha.p
  exact add_s ha.g pr ha.d (by rw [hB1.pf.size]; omega) ((l1.low sx hsx).trans hX) v1 hl fun a2 l2 v2 => h a2 (hB1.lo l2 (by omega) (by omega) (by omega) (by omega)) v2
/-- The first field of a thing in its row. -/
theorem df_s {S : TypeId} {j sz n c : Nat} {ad : Addr} {q1 q2 q3 q4 o1 o2 o3 : Oper} (hT : LP S T j sz) (hq : TtOps S j ct d q1 q2 q3 q4) (hE : FE fn ty ks val) (ho : FcOps T (d + 3) f (d + 4) fn ty o1 o2 o3) (hB : Bm hb v ct i d0 e p a) (h1 : ct < 27) (h2 : 27 ≤ d0) (h3 : d0 < d) (h4 : e < 27) (hz : d + 6 < 622) (hi : i < n)
    (hl : ∀ w, Below u.heap.size u w → w.cell? ⟨hb, j, none⟩ = some (.slice (some ad) n c))
    (hfa : ∀ (b : Addr) w, (Instr.fieldAt T (.pointer (some b)) f).run Tryz.prog w = .ok (.pointer (some (b.add off))) w) {kx : List K} (hfx : Fits kx x) (hke : (kx.drop off).take ks.length = ks) (hsz : ∀ v ∈ x, Sz v) (hc : ∀ m v, x[m]? = some v → ∀ w, Below u.heap.size u w → w.cell? ((ad.add (i * sz)).add m) = some v)
    (h : ∀ a', Lo d a a' → Bm hb v ct i d0 e p a' → a'.eval (.tmp (d + 6)) = .string ⟨(sg x off ks.length).toArray⟩ → wpHs (Below u.heap.size u) Q rest a') : wpHs (Below u.heap.size u) Q (q1 :: q2 :: q3 :: q4 :: o1 :: o2 :: o3 :: rest) a := by
  refine tt_c (F := fun l a => wpHs (Below u.heap.size u) Q l a) runs_s hq hT (by omega) (by omega) h1 hB.pf hB.c hi hl fun a1 l1 v1 => ?_
  have hB1 := hB.lo l1 (by omega) h3 (by omega) (by omega)
  refine fc_s hE ho (by rw [hB1.pf.size]; omega) v1 hfa hfx hke hsz hc fun a2 l2 v2 => ?_
  exact h a2 ⟨l2.size.trans l1.size, l2.defers.trans l1.defers, fun s hs => (l2.low s (by omega)).trans (l1.low s hs)⟩ (hB1.lo l2 (by omega) (by omega) (by omega) (by omega)) v2
/-- One more field, added. -/
theorem dfa_s {S : TypeId} {j sz n c sx o k : Nat} {ad : Addr} {q1 q2 q3 q4 o1 o2 o3 o4 : Oper} (hT : LP S T j sz) (hq : TtOps S j ct d q1 q2 q3 q4) (hE : FE fn ty ks val) (ho : FcOps T (d + 3) f (d + 4) fn ty o1 o2 o3) (ha : AdOps sx (d + 6) (d + 7) o4) (hB : Bm hb v ct i d0 e p a) (h1 : ct < 27) (h2 : 27 ≤ d0) (h3 : d0 < d) (h4 : e < 27) (hz : d + 7 < 622) (hsx : sx < d) (hi : i < n)
    (hX : a.eval (.tmp sx) = .string ⟨(sg x o k).toArray⟩) (hon : off = o + k) (hlx : (encs x).length ≤ 1000000000000)
    (hl : ∀ w, Below u.heap.size u w → w.cell? ⟨hb, j, none⟩ = some (.slice (some ad) n c))
    (hfa : ∀ (b : Addr) w, (Instr.fieldAt T (.pointer (some b)) f).run Tryz.prog w = .ok (.pointer (some (b.add off))) w) {kx : List K} (hfx : Fits kx x) (hke : (kx.drop off).take ks.length = ks) (hsz : ∀ v ∈ x, Sz v) (hc : ∀ m v, x[m]? = some v → ∀ w, Below u.heap.size u w → w.cell? ((ad.add (i * sz)).add m) = some v)
    (h : ∀ a', Bm hb v ct i d0 e p a' → a'.eval (.tmp (d + 7)) = .string ⟨(sg x o (k + ks.length)).toArray⟩ → wpHs (Below u.heap.size u) Q rest a') : wpHs (Below u.heap.size u) Q (q1 :: q2 :: q3 :: q4 :: o1 :: o2 :: o3 :: o4 :: rest) a := by
  refine df_s hT hq hE ho hB h1 h2 h3 h4 (by omega) hi hl hfa hfx hke hsz hc fun a1 l1 hB1 v1 => ?_
  subst hon
  obtain ⟨r, pr⟩ := ha.p
  exact add_s ha.g pr ha.d (by rw [hB1.pf.size]; omega) ((l1.low sx hsx).trans hX) v1 hlx fun a2 l2 v2 => h a2 (hB1.lo l2 (by omega) (by omega) (by omega) (by omega)) v2
end
/-! ### A row of bytes of which no cell is frozen -/
/-- The slice owns these bytes; a mark may stand behind its row's cells. -/
structure Own8 (B : Nat) (v : Value) (xs : List Value) (g cap : Nat) (cur : Array Value) (fr : Nat × Nat) (w : World) : Prop where
  val : v = .slice (some ⟨g, 0, none⟩) xs.length cap
  base : B ≤ g
  heap : w.heap[g]? = some (.cells cur 5 fr)
  free : ∀ j, j < cur.size → ¬(fr.1 ≤ j ∧ j < fr.2)
  cap_ : xs.length ≤ cap
  max_ : cap ≤ maxLen
  size : cur.size = cap
  take : cur.toList.take xs.length = xs
theorem heap_setCells_same {g : Nat} {e : TypeId} {fr : Nat × Nat} : ∀ (vs : List Value) (o : Nat) (cur : Array Value) (w : World), w.heap[g]? = some (.cells cur e fr) → o + vs.length ≤ cur.size →
    (w.setCells g o vs).heap[g]? = some (.cells (cur.toList.take o ++ vs ++ cur.toList.drop (o + vs.length)).toArray e fr)
  | [], o, cur, w, h, _ => by
    show w.heap[g]? = _
    rw [h]
    simp
  | v :: vs, o, cur, w, h, hl => by
    simp only [List.length_cons] at hl
    have h1 : (w.setCell ⟨g, o, none⟩ v).heap[g]? = some (.cells (cur.set! o v) e fr) := by
      simp [World.setCell, Array.getElem?_modify, h]
    have h2 := heap_setCells_same vs (o + 1) (cur.set! o v) (w.setCell ⟨g, o, none⟩ v) h1 (by simp; omega)
    rw [World.setCells, h2]
    have ho : o < cur.toList.length := by simp; omega
    congr 2
    apply Array.ext'
    simp only [Array.set!_eq_setIfInBounds, Array.toList_setIfInBounds, List.length_cons]
    rw [List.take_set, List.drop_set_of_lt (by omega), List.take_add_one, List.getElem?_eq_getElem ho]
    rw [show o + (vs.length + 1) = o + 1 + vs.length by omega]
    have e1 : (cur.toList.take o ++ (some cur.toList[o]).toList).set o v = cur.toList.take o ++ [v] := by
      rw [Option.toList_some, List.set_append_right _ _ (by simp; omega)]
      have : o - (cur.toList.take o).length = 0 := by simp; omega
      rw [this]; rfl
    rw [e1]
    simp
theorem Own8.append {B : Nat} {v : Value} {xs : List Value} {g cap : Nat} {cur : Array Value} {fr : Nat × Nat} {w : World} (h : Own8 B v xs g cap cur fr w) (hB : B ≤ w.heap.size) (s : ByteArray) (ty : TypeId) (hl : xs.length + s.size ≤ 140737488355328) :
    ∃ v' w' g' cap' cur' fr', (Builtin.append_ #[106, 9] ty #[v, .string s]).run Tryz.prog w = .ok v' w' ∧ Own8 B v' (xs ++ Lib.strCells s) g' cap' cur' fr' w' ∧ w.grownBy w' v.ownBlock := by
  obtain ⟨i0, hi, hz0, hz1, hz2⟩ := infoParts BldS.infoByte
  have hsl := Lib.strCells_length s
  obtain rfl := h.val
  have hlen : (xs ++ Lib.strCells s).length = xs.length + s.size := by rw [List.length_append, hsl]
  by_cases hroom : xs.length + s.size ≤ cap
  · have hsz := h.size
    have hcell : ∀ j, j < cur.size → (w.cell? ⟨g, j, none⟩).isSome = true := fun j hj => by simp [World.cell?, h.heap, hj]
    have hfrz : ∀ j, j < cur.size → w.frozen? ⟨g, j, none⟩ = false := fun j hj => by
      have := h.free j hj
      simp only [World.frozen?, h.heap]
      simp only [Bool.and_eq_false_iff, decide_eq_false_iff_not]
      omega
    have hst := run_storeCells_cells (P := Tryz.prog) g xs.length (Lib.strCells s) 0 w (fun j hj => hcell _ (by rw [hsl] at hj; omega)) (fun j hj => hfrz _ (by rw [hsl] at hj; omega)) (Lib.strCells_oneCell s)
    simp only [Nat.add_zero] at hst
    have hf := Lib.run_firstCells_string (P := Tryz.prog) w 1 s
    have hnew := heap_setCells_same (Lib.strCells s) xs.length cur w h.heap (by rw [hsl]; omega)
    obtain ⟨q1, q2, q3, q4⟩ := same_setCells g (Lib.strCells s) xs.length w
    refine ⟨.slice (some ⟨g, 0, none⟩) (xs.length + s.size) cap, w.setCells g xs.length (Lib.strCells s), g, cap, _, fr, ?_, ⟨by rw [hlen], h.base, hnew, fun j hj => ?_, by omega, h.max_, ?_, ?_⟩, ⟨q1, q2, q3, by omega, fun k hk hn => heap_setCells g _ _ w k (fun e => hn (by simp [Value.ownBlock, e]))⟩⟩
    · simp [Builtin.append_, run_underlying Tryz.underlying106, run_underlying Tryz.underlying9, sizeOf, typeInfo, hi, hz1, Builtin.lenOf, hroom, hf, Addr.add_lit, hst]
    · refine h.free j ?_
      simp only [List.size_toArray, List.length_append, List.length_take, List.length_drop, Array.length_toList, hsl] at hj
      omega
    · simp only [List.size_toArray, List.length_append, List.length_take, List.length_drop, Array.length_toList, hsl]
      omega
    · rw [h.take]
      exact List.take_left
  · have holds : ∀ j u, xs[j]? = some u → w.cell? ((⟨g, 0, none⟩ : Addr).add j) = some u := fun j u hu => by
      have hj := (List.getElem?_eq_some_iff.1 hu).1
      have ha : (⟨g, 0, none⟩ : Addr).add j = ⟨g, j, none⟩ := by unfold Addr.add; split <;> simp_all
      rw [ha]
      have := h.take
      rw [← this, List.getElem?_take, if_pos hj] at hu
      simp only [World.cell?, h.heap]
      simpa using hu
    have hr := Lib.run_append_grow_string (P := Tryz.prog) w 106 9 ty 5 i0 (.int .u8 0) Tryz.underlying106 Tryz.underlying9 hi hz0 ⟨g, 0, none⟩ xs.length cap xs (by rw [hz1]; simp) holds s (by omega) (by omega) (by rw [hz2]; exact growslice_fits (by omega) (by omega))
    have hge := grownCap_ge w (xs.length + s.size) cap 5
    have hcm : grownCap w (xs.length + s.size) cap 5 ≤ maxLen := grownCap_le_maxLen w (xs.length + s.size) cap 5 (by unfold maxLen; omega)
    refine ⟨_, _, w.heap.size, _, _, (0, 0), hr, ⟨by rw [hlen], hB, heap_alloc_new w.drew _, fun j _ q => by simp at q, by omega, hcm, ?_, ?_⟩, ⟨rfl, rfl, rfl, by simp, fun k hk _ => (alloc_below w.drew _).block k hk⟩⟩
    · have hz : (Value.int IntKind.u8 0).cells.size = 1 := rfl
      simp only [Array.size_append, List.size_toArray, size_zeroCells, hz, hsl]
      omega
    · simp only [Array.toList_append, List.append_assoc]
      rw [← List.append_assoc]
      exact List.take_left
/-! ### What is appended -/
/-- The bytes so far. -/
structure OB (W : World) (bs : List UInt8) (v : Value) (w : World) : Prop where
  own : ∃ g cap cur fr, Own8 W.heap.size v (Lib.byteCells bs) g cap cur fr w
  below : Below W.heap.size W w
theorem OB.later {W w w' : World} {bs : List UInt8} {v : Value} (h : OB W bs v w) (k : Below w.heap.size w w') : OB W bs v w' := by
  obtain ⟨g, cap, cur, fr, q⟩ := h.own
  exact ⟨⟨g, cap, cur, fr, q.val, q.base, by rw [k.block g (Array.getElem?_eq_some_iff.1 q.heap).1]; exact q.heap, q.free, q.cap_, q.max_, q.size, q.take⟩, h.below.trans (k.mono h.below.size)⟩
theorem OB.drew {W w : World} {bs : List UInt8} {v : Value} (h : OB W bs v w) : OB W bs v w.drew := by
  obtain ⟨g, cap, cur, fr, q⟩ := h.own
  exact ⟨⟨g, cap, cur, fr, q.val, q.base, q.heap, q.free, q.cap_, q.max_, q.size, q.take⟩, h.below.drew⟩
structure ApOps (d0 s m : Nat) (t1 t2 : Oper) : Prop where
  g1 : t1.guard = none
  g2 : t2.guard = none
  p1 : t1.op = .call { callee := .builtin .append, args := #[.tmp d0, .tmp s], argTypes := #[106, 9] }
  p2 : t2.op = .assign (.tmp m)
  d1 : t1.dst = some m
  d2 : t2.dst = some 3
theorem ap_raw {hb d0 s m : Nat} {v : Value} {bs c : List UInt8} {ops : Array Oper} {t1 t2 : Oper} {W : World} {a : Act} {w : World} {Q : Exit → Act → World → Prop} (ho : ApOps d0 s m t1 t2) (hP : PF hb v a) (hm0 : a.eval (.tmp d0) = v) (hs : a.eval (.tmp s) = .string ⟨c.toArray⟩) (hO : OB W bs v w) (hl : bs.length + c.length ≤ 1000000000) (hm : 27 ≤ m) (hz : m < 622)
    (h : ∀ a' w' v', PF hb v' a' → (∀ s : Nat, s < 27 → s ≠ 3 → a'.eval (.tmp s) = a.eval (.tmp s)) → OB W (bs ++ c) v' w' → (∀ b T y, Cs b T y w → T ≠ 5 → Cs b T y w') → Q .normal a' w') : wpList Tryz.prog ops Q [t1, t2] a w := by
  have hcs : (⟨c.toArray⟩ : ByteArray).size = c.length := size_mk c
  obtain ⟨g, cap, cur, fr, hown0⟩ := hO.own
  have hbl : (Lib.byteCells bs).length = bs.length := Lib.byteCells_length bs
  refine wpList_plain ho.g1 fun K hK => ?_
  obtain ⟨v', w', g', cap', cur', fr', hr, hown, hgrow⟩ := hown0.append hO.below.size ⟨c.toArray⟩ t1.type (by rw [hbl, hcs]; omega)
  unfold Oper.wp execOp
  simp only [ho.p1, resolve, invoke, builtin, Sem.run_bind, Sem.run_pure, Result.andThen_ok, List.map_toArray, List.map_cons, List.map_nil, hm0, hs, hr]
  refine hK _ _ ?_
  rw [ho.d1]
  have v1 : (a.put (some m) v').eval (.tmp m) = v' := put_same _ (by rw [hP.size]; omega)
  have k1 : ∀ s : Nat, s < 27 → (a.put (some m) v').eval (.tmp s) = a.eval (.tmp s) := fun s hs => put_other _ (by omega)
  have s1 := put_size a (some m) v'
  have f1 := put_defers a (some m) v'
  generalize a.put (some m) v' = a1 at v1 k1 s1 f1
  refine wpList_mv ho.g2 (.tmp m) (.inr ho.p2) (wpList_nil ?_)
  rw [ho.d2, v1]
  have v2 : (a1.put (some 3) v').eval (.tmp 3) = v' := put_same _ (by rw [s1, hP.size]; omega)
  have k2 : ∀ s : Nat, s < 27 → s ≠ 3 → (a1.put (some 3) v').eval (.tmp s) = a.eval (.tmp s) := fun s hs hn => (put_other _ hn).trans (k1 s hs)
  refine h _ w' v' ⟨(put_size _ _ _).trans (s1.trans hP.size), (put_defers _ _ _).trans (f1.trans hP.defers), (k2 1 (by omega) (by omega)).trans hP.s1, v2⟩ k2 ⟨?_, hO.below.grown hgrow hO.below.size fun k hk => ?_⟩ fun b T y hy hT => ?_
  · have e : Lib.byteCells (bs ++ c) = Lib.byteCells bs ++ Lib.strCells ⟨c.toArray⟩ := by rw [Lib.strCells_eq]; simp [Lib.byteCells]
    rw [e]
    exact ⟨g', cap', cur', fr', hown⟩
  · rw [hown0.val] at hk
    have : g = k := by simpa [Value.ownBlock] using hk
    have := hown0.base
    omega
  · refine Cs.keep hy (hgrow.block b hy.lt fun q => ?_)
    rw [hown0.val] at q
    have q' : b = g := by simpa [Value.ownBlock] using q
    subst q'
    unfold Cs at hy
    rw [hown0.heap] at hy
    exact hT (by cases hy; rfl)
theorem ap_tail {hb ct i d0 e s m : Nat} {v p : Value} {bs c : List UInt8} {ops : Array Oper} {t1 t2 : Oper} {W : World} {a : Act} {w : World} {Q : Exit → Act → World → Prop} (ho : ApOps d0 s m t1 t2) (hB : Bm hb v ct i d0 e p a) (hs : a.eval (.tmp s) = .string ⟨c.toArray⟩) (hO : OB W bs v w) (hl : bs.length + c.length ≤ 1000000000) (hm : 27 ≤ m) (hz : m < 622) (hct : ct < 27) (hct3 : ct ≠ 3) (he : e < 27) (he3 : e ≠ 3)
    (h : ∀ a' w' v', PF hb v' a' → a'.eval (.tmp ct) = .int .i64 (i : Int) → a'.eval (.tmp e) = p → (∀ s : Nat, s < 27 → s ≠ 3 → a'.eval (.tmp s) = a.eval (.tmp s)) → OB W (bs ++ c) v' w' → (∀ b T y, Cs b T y w → T ≠ 5 → Cs b T y w') → Q .normal a' w') : wpList Tryz.prog ops Q [t1, t2] a w :=
  ap_raw ho hB.pf hB.m hs hO hl hm hz fun a' w' v' q1 q2 q3 q4 => h a' w' v' q1 ((q2 ct hct hct3).trans hB.c) ((q2 e he he3).trans hB.s) q2 q3 q4
end Go.Proofs.YtgdoodeibcfcjaaGreat.Wire
