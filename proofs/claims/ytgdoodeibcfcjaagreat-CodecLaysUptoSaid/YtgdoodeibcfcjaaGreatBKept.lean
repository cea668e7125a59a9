/- stevedorekeep.Kept of a house that was lent. Printed by bkept.py. -/
import Derived.Test.YtgdoodeibcfcjaaGreatBLentT
import Derived.Test.YtgdoodeibcfcjaaGreatBFix
import Derived.Test.YtgdoodeibcfcjaaGreatCSameH
set_option linter.unusedVariables false
set_option linter.unusedSimpArgs false
namespace Go.Proofs.YtgdoodeibcfcjaaGreat.Wire
open Go.RowKit Go.Proofs.YtgdoodeibcfcjaaGreat.NumsPure Go.Proofs.YtgdoodeibcfcjaaGreat.CPure Go.Proofs.YtgdoodeibcfcjaaGreat.Own
def behC (j : Nat) : Nat := ([0, 1, 0, 0, 4, 1, 0, 0, 0, 8, 0, 0, 4, 1] : List Nat).getD j 0
def behV (j : Nat) : Value := if j = 4 ∨ j = 12 then .int .i64 (-77) else .string ⟨#[98, 101, 104, 105, 110, 100]⟩
/-- What a conjunct's slots hold at the end. -/
def kvJ (ob hb : Nat) (ad : Nat → Addr) (c : Nat → Nat) (B : Nat → Option Addr) (dd n : Nat → Nat) (j : Nat) : Nat → Value
  | 0 => .pointer (some ⟨ob, j, none⟩)
  | 1 => .slice (some (ad j)) (n j) (c j)
  | 2 => .pointer (some ⟨hb, j, none⟩)
  | 3 => .slice (B j) (n j) (dd j)
  | 4 => .int .i64 (n j : Int)
  | 5 => .int .i64 ((n j + 1 : Nat) : Int)
  | 6 => .slice (some (ad j)) (n j + 1) (c j)
  | 7 => .pointer (some ⟨hb, j, none⟩)
  | 8 => .slice (B j) (n j) (dd j)
  | 9 => .int .i64 (n j : Int)
  | 10 => .pointer (some ((ad j).add (n j * szJ j)))
  | 11 => .pointer (some (((ad j).add (n j * szJ j)).add (behC j)))
  | 12 => behV j
  | _ => .bool true
def kv (cs vs : List Value) (ob hb : Nat) (ad : Nat → Addr) (c : Nat → Nat) (B : Nat → Option Addr) (dd n : Nat → Nat) (t : Nat) : Value :=
  if t = 0 ∨ t = 5 then .agg cs.toArray else if t = 1 ∨ t = 6 then .agg vs.toArray else if t = 2 then .pointer (some ⟨ob, 0, none⟩) else if t = 3 then .pointer (some ⟨hb, 0, none⟩)
  else if t < 9 then .bool true else kvJ ob hb ad c B dd n ((t - 9) / 16) ((t - 9) % 16)
theorem kv_at (cs vs : List Value) (ob hb : Nat) (ad : Nat → Addr) (c : Nat → Nat) (B : Nat → Option Addr) (dd n : Nat → Nat) (j k : Nat) (hk : k < 16) : kv cs vs ob hb ad c B dd n (9 + 16 * j + k) = kvJ ob hb ad c B dd n j k := by
  unfold kv
  rw [if_neg (by omega), if_neg (by omega), if_neg (by omega), if_neg (by omega), if_neg (by omega)]
  rw [show (9 + 16 * j + k - 9) / 16 = j by omega, show (9 + 16 * j + k - 9) % 16 = k by omega]
def kF (f : Nat → Value) : Act := { tmps := (Array.range 232).map f, defers := [] }
theorem kF_size (f : Nat → Value) : (kF f).tmps.size = 232 := by simp [kF]
theorem kF_at (f : Nat → Value) {t : Nat} (h : t < 232) : (kF f).eval (.tmp t) = f t := by
  simp [kF, Act.eval, Array.getD_eq_getD_getElem?, h]
def opsK : Code → Array Oper
  | .seq _ (.seq (.region _ o _) _) => o
  | _ => #[]
noncomputable def bodyK : Code := (Tryz.f12.body).getD .skip
noncomputable def kOps : Array Oper := opsK bodyK
theorem kSz : kOps.size = 228 := by kernel_rfl
theorem kChk : chkB 5 4 0 kOps.toList = true := by kernel_rfl
/-- A guarded operation. -/
def IsG (o : Oper) (g : Option (Nat × Bool)) (p : Op) (d : Nat) : Prop := o.guard = g ∧ o.op = p ∧ o.dst = some d
section
variable {S : World → Prop} {f : Nat → Value} {l : List Oper}
theorem alls {o : Oper} {d : Nat} (hd : o.dst = some d) (hlt : d < 232) (hw : Region.wanted o (yielded kOps (kF f).tmps) = true) (hr : ∀ w, S w → (execOp (kF f).eval o).run Tryz.prog w = .ok (.value (f d)) w) (h : AllS S kOps (kF f) l) : AllS S kOps (kF f) (o :: l) :=
  ⟨fun d' hd' => by
    rw [hd] at hd'
    cases hd'
    exact ⟨hw, fun w hS => .inl (by rw [kF_at f hlt]; exact hr w hS)⟩, h⟩
end
theorem eql_s (ρ : Operand → Value) (o : Oper) (x : Operand) (s : ByteArray) (r : TypeId) (p : o.op = .binOp .eql 9 x (.const (.string s)) r) (hx : ρ x = .string s) (hc : ∀ v, ρ (.const v) = v) (w : World) : (execOp ρ o).run Tryz.prog w = .ok (.value (.bool true)) w := by
  unfold execOp
  simp [p, hx, hc, go_sem]
theorem eql_i (ρ : Operand → Value) (o : Oper) (x : Operand) (z : Int) (r : TypeId) (p : o.op = .binOp .eql 3 x (.const (.int .i64 z)) r) (hx : ρ x = .int .i64 z) (hc : ∀ v, ρ (.const v) = v) (w : World) : (execOp ρ o).run Tryz.prog w = .ok (.value (.bool true)) w := by
  unfold execOp
  simp [p, hx, hc, go_sem]
theorem pick_t (ρ : Operand → Value) (o : Oper) (x y : Operand) (p : o.op = .pick x y (.const (.bool false))) (hx : ρ x = .bool true) (hy : ρ y = .bool true) (w : World) : (execOp ρ o).run Tryz.prog w = .ok (.value (.bool true)) w := by
  unfold execOp
  simp [p, hx, hy, go_sem]
/-- A conjunct's operations. -/
structure KOps (S T ft : TypeId) (j g b fx : Nat) (o0 o1 o2 o3 o4 o5 o6 o7 o8 o9 o10 o11 o12 o13 o14 : Oper) : Prop where
  o0 : IsG o0 (some (g, true)) (.fieldAddr 37 (.tmp 2) j) b
  o1 : IsG o1 (some (g, true)) (.load S (.tmp b)) (b + 1)
  o2 : IsG o2 (some (g, true)) (.fieldAddr 37 (.tmp 3) j) (b + 2)
  o3 : IsG o3 (some (g, true)) (.load S (.tmp (b + 2))) (b + 3)
  o4 : IsG o4 (some (g, true)) (.call { callee := .builtin .len, args := #[.tmp (b + 3)], argTypes := #[S] }) (b + 4)
  o5 : ∃ r, IsG o5 (some (g, true)) (.binOp .add 3 (.tmp (b + 4)) (.const (.int .i64 1)) r) (b + 5)
  o6 : IsG o6 (some (g, true)) (.slice S (.tmp (b + 1)) none (some (.tmp (b + 5))) none) (b + 6)
  o7 : IsG o7 (some (g, true)) (.fieldAddr 37 (.tmp 3) j) (b + 7)
  o8 : IsG o8 (some (g, true)) (.load S (.tmp (b + 7))) (b + 8)
  o9 : IsG o9 (some (g, true)) (.call { callee := .builtin .len, args := #[.tmp (b + 8)], argTypes := #[S] }) (b + 9)
  o10 : IsG o10 (some (g, true)) (.indexAddr S (.tmp (b + 6)) (.tmp (b + 9))) (b + 10)
  o11 : IsG o11 (some (g, true)) (.fieldAddr T (.tmp (b + 10)) fx) (b + 11)
  o12 : IsG o12 (some (g, true)) (.load ft (.tmp (b + 11))) (b + 12)
  o13 : o13.guard = some (g, true) ∧ o13.dst = some (b + 13)
  o14 : IsG o14 none (.pick (.tmp (b - 1)) (.tmp (b + 13)) (.const (.bool false))) (b + 14)
theorem slice_at {S T : TypeId} {inf : TypeInfo} (hu : Tryz.prog.underlying S = some (.slice T)) (hi : Tryz.prog.info? T = some inf) (a : Addr) (len cap n : Nat) (h : n ≤ cap) (hc : cap ≠ 0) (w : World) : (Instr.sliceAt S (.slice (some a) len cap) none (some (.int .i64 (n : Int))) none).run Tryz.prog w = .ok (.slice (some a) n cap) w := by
  have hel : Tryz.prog.elem S = T := by simp [Program.elem, hu]
  have huE : Tryz.prog.underlying S = some (.slice (Tryz.prog.elem S)) := by rw [hel]; exact hu
  have h2 := run_slice_h (P := Tryz.prog) (w := w) (t := S) (a := some a) (len := len) (cap := cap) (ht := huE) (kh := .i64) (h := (n : Int)) (by omega) (by omega)
  rw [run_sliceAt_slice (h := huE), h2, hel]
  simp [sizeOf, typeInfo, hi, sliced, hc, addr_add0]
set_option maxHeartbeats 1000000 in
theorem conj_ok {Sw : World → Prop} {S T ft : TypeId} {j g b fx : Nat} {inf : TypeInfo} {cs vs : List Value} {ob hb : Nat} {ad : Nat → Addr} {c : Nat → Nat} {B : Nat → Option Addr} {dd n : Nat → Nat} {o0 o1 o2 o3 o4 o5 o6 o7 o8 o9 o10 o11 o12 o13 o14 : Oper} {l : List Oper} (ho : KOps S T ft j g b fx o0 o1 o2 o3 o4 o5 o6 o7 o8 o9 o10 o11 o12 o13 o14) (hb_ : b = 9 + 16 * j) (hg : 5 + g = b - 1) (hj : j < 14)
    (hT : LP S T j (szJ j)) (hu : Tryz.prog.underlying S = some (.slice T)) (hi : Tryz.prog.info? T = some inf) (hfx : ∀ (p : Addr) w, (Instr.fieldAt T (.pointer (some p)) fx).run Tryz.prog w = .ok (.pointer (some (p.add (behC j)))) w) (hft : ∀ w, (isAgg ft).run Tryz.prog w = .ok false w)
    (heq : ∀ (ρ : Operand → Value) w, ρ (.tmp (b + 12)) = behV j → (∀ v, ρ (.const v) = v) → (execOp ρ o13).run Tryz.prog w = .ok (.value (.bool true)) w)
    (hown : ∀ w, Sw w → w.cell? ⟨ob, j, none⟩ = some (.slice (some (ad j)) (n j) (c j))) (hh : ∀ w, Sw w → w.cell? ⟨hb, j, none⟩ = some (.slice (B j) (n j) (dd j))) (hcap : n j + 1 ≤ c j) (hn : n j ≤ 100000000) (hbeh : ∀ w, Sw w → w.cell? (((ad j).add (n j * szJ j)).add (behC j)) = some (behV j))
    (h : AllS Sw kOps (kF (kv cs vs ob hb ad c B dd n)) l) : AllS Sw kOps (kF (kv cs vs ob hb ad c B dd n)) (o0 :: o1 :: o2 :: o3 :: o4 :: o5 :: o6 :: o7 :: o8 :: o9 :: o10 :: o11 :: o12 :: o13 :: o14 :: l) := by
  subst hb_
  obtain ⟨f, hf⟩ : ∃ f, f = kv cs vs ob hb ad c B dd n := ⟨_, rfl⟩
  have at_ : ∀ k : Nat, k < 15 → f (9 + 16 * j + k) = kvJ ob hb ad c B dd n j k := fun k hk => by rw [hf]; exact kv_at cs vs ob hb ad c B dd n j k (by omega)
  have e0 : f (9 + 16 * j) = .pointer (some ⟨ob, j, none⟩) := at_ 0 (by omega)
  have f2 : f 2 = .pointer (some ⟨ob, 0, none⟩) := by rw [hf]; rfl
  have f3 : f 3 = .pointer (some ⟨hb, 0, none⟩) := by rw [hf]; rfl
  have fp : f (9 + 16 * j - 1) = .bool true := by
    rw [hf]
    cases j with
    | zero => rfl
    | succ j => rw [show 9 + 16 * (j + 1) - 1 = 9 + 16 * j + 15 by omega, kv_at _ _ _ _ _ _ _ _ _ j 15 (by omega)]; rfl
  rw [← hf] at h ⊢
  clear hf
  have ev : ∀ t : Nat, t < 232 → (kF f).eval (.tmp t) = f t := fun t ht => kF_at f ht
  have ec : ∀ v, (kF f).eval (.const v) = v := fun v => rfl
  have hw : ∀ o : Oper, o.guard = some (g, true) → Region.wanted o (yielded kOps (kF f).tmps) = true := fun o hgo => wantedT kChk hgo (by rw [kSz]; omega) (by rw [kF_size]; omega) (by rw [ev _ (by omega), hg]; exact fp)
  have q : ∀ k : Nat, k < 15 → (kF f).eval (.tmp (9 + 16 * j + k)) = kvJ ob hb ad c B dd n j k := fun k hk => (ev _ (by omega)).trans (at_ k hk)
  have q0 : (kF f).eval (.tmp (9 + 16 * j)) = .pointer (some ⟨ob, j, none⟩) := q 0 (by omega)
  have q2 : (kF f).eval (.tmp 2) = .pointer (some ⟨ob, 0, none⟩) := (ev 2 (by omega)).trans f2
  have q3 : (kF f).eval (.tmp 3) = .pointer (some ⟨hb, 0, none⟩) := (ev 3 (by omega)).trans f3
  refine alls ho.o0.2.2 (by omega) (hw _ ho.o0.1) (fun w hS => ?_) ?_
  · rw [e0]; unfold execOp; simp only [ho.o0.2.1, q2, Sem.run_bind, hT.fa, Result.andThen_ok, Sem.run_pure]
  refine alls ho.o1.2.2 (by omega) (hw _ ho.o1.1) (fun w hS => ?_) ?_
  · rw [at_ 1 (by omega)]; unfold execOp; simp only [ho.o1.2.1, q0]; simp [Instr.loadAt, Instr.sureAddr, loadVar, Sem.run_bind, hT.ag, run_load, hown w hS, kvJ]
  refine alls ho.o2.2.2 (by omega) (hw _ ho.o2.1) (fun w hS => ?_) ?_
  · rw [at_ 2 (by omega)]; unfold execOp; simp only [ho.o2.2.1, q3, Sem.run_bind, hT.fa, Result.andThen_ok, Sem.run_pure]; rfl
  refine alls ho.o3.2.2 (by omega) (hw _ ho.o3.1) (fun w hS => ?_) ?_
  · have := q 2 (by omega)
    simp only [kvJ] at this
    rw [at_ 3 (by omega)]; unfold execOp; simp only [ho.o3.2.1, this]; simp [Instr.loadAt, Instr.sureAddr, loadVar, Sem.run_bind, hT.ag, run_load, hh w hS, kvJ]
  refine alls ho.o4.2.2 (by omega) (hw _ ho.o4.1) (fun w hS => ?_) ?_
  · have h3 := q 3 (by omega)
    simp only [kvJ] at h3
    have h3' : (kF f).tmps[9 + 16 * j + 3]?.getD undef = .slice (B j) (n j) (dd j) := by rw [← h3]; simp [Act.eval, Array.getD_eq_getD_getElem?]
    rw [at_ 4 (by omega)]; unfold execOp; simp [go_sem, ho.o4.2.1, h3', len_at hu, kvJ]
  obtain ⟨r5, ho5⟩ := ho.o5
  refine alls ho5.2.2 (by omega) (hw _ ho5.1) (fun w hS => ?_) ?_
  · have h4 := q 4 (by omega)
    simp only [kvJ] at h4
    have hwr : IntKind.i64.wrap ((n j : Int) + 1) = ((n j + 1 : Nat) : Int) := by rw [IntWalk.i64_in _ (by omega)]; omega
    have hrun : (binOp .add 3 (.int .i64 (n j : Int)) (.int .i64 1)).run Tryz.prog w = .ok (.int .i64 ((n j + 1 : Nat) : Int)) w := by
      simp only [binOp, Op.intArith]
      simp [hwr]
    have ea : f (9 + 16 * j + 5) = .int .i64 ((n j + 1 : Nat) : Int) := at_ 5 (by omega)
    rw [ea]; unfold execOp; simp only [ho5.2.1, h4, ec]; generalize ((n j + 1 : Nat) : Int) = z at hrun; simp [eqGuard, hrun]
  refine alls ho.o6.2.2 (by omega) (hw _ ho.o6.1) (fun w hS => ?_) ?_
  · have h1 := q 1 (by omega); have h5 := q 5 (by omega)
    simp only [kvJ] at h1 h5
    rw [at_ 6 (by omega)]; unfold execOp; simp only [ho.o6.2.1, h1, h5, Option.map_some, Option.map_none, Sem.run_bind, slice_at hu hi (ad j) (n j) (c j) (n j + 1) hcap (by omega) w, Result.andThen_ok, Sem.run_pure]; rfl
  refine alls ho.o7.2.2 (by omega) (hw _ ho.o7.1) (fun w hS => ?_) ?_
  · rw [at_ 7 (by omega)]; unfold execOp; simp only [ho.o7.2.1, q3, Sem.run_bind, hT.fa, Result.andThen_ok, Sem.run_pure]; rfl
  refine alls ho.o8.2.2 (by omega) (hw _ ho.o8.1) (fun w hS => ?_) ?_
  · have := q 7 (by omega)
    simp only [kvJ] at this
    rw [at_ 8 (by omega)]; unfold execOp; simp only [ho.o8.2.1, this]; simp [Instr.loadAt, Instr.sureAddr, loadVar, Sem.run_bind, hT.ag, run_load, hh w hS, kvJ]
  refine alls ho.o9.2.2 (by omega) (hw _ ho.o9.1) (fun w hS => ?_) ?_
  · have h3 := q 8 (by omega)
    simp only [kvJ] at h3
    have h3' : (kF f).tmps[9 + 16 * j + 8]?.getD undef = .slice (B j) (n j) (dd j) := by rw [← h3]; simp [Act.eval, Array.getD_eq_getD_getElem?]
    rw [at_ 9 (by omega)]; unfold execOp; simp [go_sem, ho.o9.2.1, h3', len_at hu, kvJ]
  refine alls ho.o10.2.2 (by omega) (hw _ ho.o10.1) (fun w hS => ?_) ?_
  · have h6 := q 6 (by omega); have h9 := q 9 (by omega)
    simp only [kvJ] at h6 h9
    rw [at_ 10 (by omega)]; unfold execOp; simp only [ho.o10.2.1, h6, h9, Sem.run_bind, hT.ix (ad j) (n j + 1) (c j) (n j) w (by omega), Result.andThen_ok, Sem.run_pure]; rfl
  refine alls ho.o11.2.2 (by omega) (hw _ ho.o11.1) (fun w hS => ?_) ?_
  · have h10 := q 10 (by omega)
    simp only [kvJ] at h10
    rw [at_ 11 (by omega)]; unfold execOp; simp only [ho.o11.2.1, h10, Sem.run_bind, hfx, Result.andThen_ok, Sem.run_pure]; rfl
  refine alls ho.o12.2.2 (by omega) (hw _ ho.o12.1) (fun w hS => ?_) ?_
  · have h11 := q 11 (by omega)
    simp only [kvJ] at h11
    rw [at_ 12 (by omega)]; unfold execOp; simp only [ho.o12.2.1, h11]; simp [Instr.loadAt, Instr.sureAddr, loadVar, Sem.run_bind, hft, run_load, hbeh w hS, kvJ]
  refine alls ho.o13.2 (by omega) (hw _ ho.o13.1) (fun w hS => ?_) ?_
  · have h12 := q 12 (by omega)
    rw [at_ 13 (by omega)]
    exact heq _ w h12 ec
  refine alls ho.o14.2.2 (by omega) (wantedN ho.o14.1) (fun w hS => ?_) h
  have h13 := q 13 (by omega)
  rw [at_ 14 (by omega)]
  exact pick_t _ _ _ _ ho.o14.2.1 ((ev _ (by omega)).trans fp) h13 w
theorem as_ok {Sw : World → Prop} {f : Nat → Value} {o : Oper} {s d : Nat} {l : List Oper} (ho : IsG o none (.assign (.tmp s)) d) (hs : s < 232) (hd : d < 232) (e : f d = f s) (h : AllS Sw kOps (kF f) l) : AllS Sw kOps (kF f) (o :: l) :=
  alls ho.2.2 hd (wantedN ho.1) (fun w hS => by unfold execOp; simp only [ho.2.1, kF_at f hs, Sem.run_pure, e]) h
theorem ldH_ok {Sw : World → Prop} {f : Nat → Value} {o : Oper} {s d b : Nat} {xs : List Value} {l : List Oper} (ho : IsG o none (.load 37 (.tmp s)) d) (hs : s < 232) (hd : d < 232) (es : f s = .pointer (some ⟨b, 0, none⟩)) (ed : f d = .agg xs.toArray) (hld : ∀ w, Sw w → (loadVar 37 ⟨b, 0, none⟩).run Tryz.prog w = .ok (.agg xs.toArray) w) (h : AllS Sw kOps (kF f) l) : AllS Sw kOps (kF f) (o :: l) :=
  alls ho.2.2 hd (wantedN ho.1) (fun w hS => by
    rw [ed]
    unfold execOp
    simp only [ho.2.1, kF_at f hs, es, Instr.loadAt, Instr.sureAddr, Sem.run_bind, Sem.run_pure, Result.andThen_ok, hld w hS]) h
theorem move_ok {Sw : World → Prop} {f : Nat → Value} {o : Oper} {s d : Nat} {l : List Oper} (ho : IsG o none (.move (.tmp s)) d) (hs : s < 232) (hd : d < 232) (e : f d = f s) (h : AllS Sw kOps (kF f) l) : AllS Sw kOps (kF f) (o :: l) :=
  alls ho.2.2 hd (wantedN ho.1) (fun w hS => by unfold execOp; simp only [ho.2.1, kF_at f hs, Sem.run_pure, e]) h
theorem fk_item (b : Addr) (w : World) : (Instr.fieldAt 59 (.pointer (some b)) 0).run Tryz.prog w = .ok (.pointer (some (b.add (behC 0)))) w := by simp [go_sem, behC]
theorem fk_lot (b : Addr) (w : World) : (Instr.fieldAt 62 (.pointer (some b)) 1).run Tryz.prog w = .ok (.pointer (some (b.add (behC 1)))) w := by simp [go_sem, behC]
theorem fk_zone (b : Addr) (w : World) : (Instr.fieldAt 65 (.pointer (some b)) 0).run Tryz.prog w = .ok (.pointer (some (b.add (behC 2)))) w := by simp [go_sem, behC]
theorem fk_bin (b : Addr) (w : World) : (Instr.fieldAt 68 (.pointer (some b)) 0).run Tryz.prog w = .ok (.pointer (some (b.add (behC 3)))) w := by simp [go_sem, behC]
theorem fk_quant (b : Addr) (w : World) : (Instr.fieldAt 73 (.pointer (some b)) 1).run Tryz.prog w = .ok (.pointer (some (b.add (behC 4)))) w := by simp [go_sem, behC]
theorem fk_rule (b : Addr) (w : World) : (Instr.fieldAt 76 (.pointer (some b)) 1).run Tryz.prog w = .ok (.pointer (some (b.add (behC 5)))) w := by simp [go_sem, behC]
theorem fk_notice (b : Addr) (w : World) : (Instr.fieldAt 82 (.pointer (some b)) 0).run Tryz.prog w = .ok (.pointer (some (b.add (behC 6)))) w := by simp [go_sem, behC]
theorem fk_order (b : Addr) (w : World) : (Instr.fieldAt 85 (.pointer (some b)) 0).run Tryz.prog w = .ok (.pointer (some (b.add (behC 7)))) w := by simp [go_sem, behC]
theorem fk_claim (b : Addr) (w : World) : (Instr.fieldAt 88 (.pointer (some b)) 0).run Tryz.prog w = .ok (.pointer (some (b.add (behC 8)))) w := by simp [go_sem, behC]
theorem fk_task (b : Addr) (w : World) : (Instr.fieldAt 91 (.pointer (some b)) 5).run Tryz.prog w = .ok (.pointer (some (b.add (behC 9)))) w := by simp [go_sem, behC]
theorem fk_parcel (b : Addr) (w : World) : (Instr.fieldAt 94 (.pointer (some b)) 0).run Tryz.prog w = .ok (.pointer (some (b.add (behC 10)))) w := by simp [go_sem, behC]
theorem fk_sent (b : Addr) (w : World) : (Instr.fieldAt 97 (.pointer (some b)) 0).run Tryz.prog w = .ok (.pointer (some (b.add (behC 11)))) w := by simp [go_sem, behC]
theorem fk_counted (b : Addr) (w : World) : (Instr.fieldAt 100 (.pointer (some b)) 1).run Tryz.prog w = .ok (.pointer (some (b.add (behC 12)))) w := by simp [go_sem, behC]
theorem fk_total (b : Addr) (w : World) : (Instr.fieldAt 103 (.pointer (some b)) 1).run Tryz.prog w = .ok (.pointer (some (b.add (behC 13)))) w := by simp [go_sem, behC]
theorem res_K {a : Act} {w : World} {v : Value} (e2 : a.eval (.tmp 4) = v) : (results Tryz.f12 a.tmps).run Tryz.prog w = .ok v w := by
  have er : Tryz.f12.results = #[.tmp 4] := rfl
  unfold results
  rw [er]
  have e2' : a.tmps[4]?.getD undef = v := by rw [← e2]; simp [Act.eval, Array.getD_eq_getD_getElem?]
  simp [Sem.run_bind, e2']
theorem cf_same (vals : Array Value) (w : World) : (callFunc 15 vals).run Tryz.prog w = .ok (.enter 15 vals) w := by simp [go_sem]
theorem beh_at : ∀ j, j < 14 → (behJ j)[behC j]? = some (behV j) := by
  intro j hj
  have : j = 0 ∨ j = 1 ∨ j = 2 ∨ j = 3 ∨ j = 4 ∨ j = 5 ∨ j = 6 ∨ j = 7 ∨ j = 8 ∨ j = 9 ∨ j = 10 ∨ j = 11 ∨ j = 12 ∨ j = 13 := by omega
  rcases this with rfl | rfl | rfl | rfl | rfl | rfl | rfl | rfl | rfl | rfl | rfl | rfl | rfl | rfl <;> rfl
set_option maxHeartbeats 8000000 in
set_option maxRecDepth 100000 in
theorem Kept_any {cs vs : List Value} {R : Nat → List (List Value)} {z : Int} {w : World} (hO : LentA w cs R z) (hH : HouseA w vs R z) : Calls Tryz.prog 12 #[.agg cs.toArray, .agg vs.toArray] w (YesB w) := by
  refine calls_of_wp (c := bodyK) Tryz.func12 rfl ?_
  obtain ⟨a, ha⟩ : ∃ a : Act, a = { tmps := #[.agg cs.toArray, .agg vs.toArray] ++ Array.replicate (Tryz.f12.ntmps - (#[Value.agg cs.toArray, .agg vs.toArray] : Array Value).size) undef, defers := [] } := ⟨_, rfl⟩
  rw [← ha]
  have z1 : a.tmps.size = 232 := by rw [ha]; simp [Tryz.ntmps12]
  have z2 : a.defers = [] := by rw [ha]
  have s0 : a.eval (.tmp 0) = .agg cs.toArray := by rw [ha]; exact (args2 _ _ _).1
  have s1 : a.eval (.tmp 1) = .agg vs.toArray := by rw [ha]; exact (args2 _ _ _).2
  clear ha
  refine wp_seq (wp_region_list ?_)
  show wpList _ _ _ [_, _, _] a w
  refine stp (p := .box 37 (.tmp 0)) (d := 2) ⟨rfl, rfl, rfl⟩ (by rw [z1]; decide) (run_boxL rfl s0 w) fun a1 l1 v2 => ?_
  have s0 := (l1.low 0 (by decide)).trans s0; have s1 := (l1.low 1 (by decide)).trans s1; have z1 := l1.size.trans z1; have z2 := l1.defers.trans z2
  have c0 := cs_alloc w cs.toArray 37 cs rfl
  have b0 := alloc_below w (.cells cs.toArray 37)
  have n0 : (w.alloc (.cells cs.toArray 37)).heap.size = w.heap.size + 1 := by simp
  generalize w.alloc (.cells cs.toArray 37) = w1 at c0 b0 n0
  refine stp (p := .box 37 (.tmp 1)) (d := 3) ⟨rfl, rfl, rfl⟩ (by rw [z1]; decide) (run_boxL rfl s1 w1) fun a2 l2 v3 => ?_
  have s0 := (l2.low 0 (by decide)).trans s0; have s1 := (l2.low 1 (by decide)).trans s1; have z1 := l2.size.trans z1; have z2 := l2.defers.trans z2; have v2 := (l2.low 2 (by decide)).trans v2
  have c1 := cs_alloc w1 vs.toArray 37 vs rfl
  have b1 := alloc_below w1 (.cells vs.toArray 37)
  have c0 := c0.keep (b1.block _ c0.lt)
  generalize w1.alloc (.cells vs.toArray 37) = W at c0 c1 b1
  refine stp (p := .assign (.const (.bool false))) (d := 4) (w' := W) (v := .bool false) ⟨rfl, rfl, rfl⟩ (by rw [z1]; decide) rfl fun a3 l3 _ => wpList_nil ?_
  have s0 := (l3.low 0 (by decide)).trans s0; have s1 := (l3.low 1 (by decide)).trans s1; have z1 := l3.size.trans z1; have z2 := l3.defers.trans z2; have v2 := (l3.low 2 (by decide)).trans v2; have v3 := (l3.low 3 (by decide)).trans v3
  have hBW : Below w.heap.size w W := b0.trans (b1.mono b0.size)
  have hO := hO.below hBW
  have hH := hH.below hBW
  obtain ⟨ob, hob⟩ : ∃ x, x = w.heap.size := ⟨_, rfl⟩
  obtain ⟨hb, hhb⟩ : ∃ x, x = w1.heap.size := ⟨_, rfl⟩
  rw [← hob] at c0 v2
  rw [← hhb] at c1 v3
  have hpos : ∀ j, j < 14 → ∃ (ad : Addr) (c : Nat), cs[j]? = some (.slice (some ad) (R j).length c) ∧ (R j).length + 1 ≤ c ∧ (R j).length ≤ 100000000 ∧ ad.block < W.heap.size ∧ W.cell? ((ad.add ((R j).length * szJ j)).add (behC j)) = some (behV j) := fun j hj => by
    obtain ⟨A, c, e, hR⟩ := hO.row j hj
    obtain ⟨ad, ea, hbk, hc⟩ := hR.at_ (by simp)
    have h1 := hR.cap
    have h2 := hR.few
    simp only [List.length_append, List.length_cons, List.length_nil] at h1 h2
    refine ⟨ad, c, by rw [e, ea], by omega, by omega, hbk, ?_⟩
    rw [add_of_add]
    exact hc (R j).length (behJ j) (by rw [List.getElem?_append_right (Nat.le_refl _), Nat.sub_self]; rfl) _ _ (beh_at j hj)
  have hpos2 : ∀ j, j < 14 → ∃ (B : Option Addr) (d : Nat), vs[j]? = some (.slice B (R j).length d) := fun j hj => by
    obtain ⟨B, d, e, _⟩ := hH.row j hj
    exact ⟨B, d, e⟩
  obtain ⟨ad, had⟩ : ∃ ad : Nat → Addr, ∀ j, j < 14 → ∃ c, cs[j]? = some (.slice (some (ad j)) (R j).length c) ∧ (R j).length + 1 ≤ c ∧ (R j).length ≤ 100000000 ∧ (ad j).block < W.heap.size ∧ W.cell? (((ad j).add ((R j).length * szJ j)).add (behC j)) = some (behV j) :=
    ⟨fun j => if q : j < 14 then (hpos j q).choose else ⟨0, 0, none⟩, fun j q => by simp only [dif_pos q]; exact (hpos j q).choose_spec⟩
  obtain ⟨c, hc⟩ : ∃ c : Nat → Nat, ∀ j, j < 14 → cs[j]? = some (.slice (some (ad j)) (R j).length (c j)) ∧ (R j).length + 1 ≤ c j ∧ (R j).length ≤ 100000000 ∧ (ad j).block < W.heap.size ∧ W.cell? (((ad j).add ((R j).length * szJ j)).add (behC j)) = some (behV j) :=
    ⟨fun j => if q : j < 14 then (had j q).choose else 0, fun j q => by simp only [dif_pos q]; exact (had j q).choose_spec⟩
  obtain ⟨B, hB⟩ : ∃ B : Nat → Option Addr, ∀ j, j < 14 → ∃ d, vs[j]? = some (.slice (B j) (R j).length d) :=
    ⟨fun j => if q : j < 14 then (hpos2 j q).choose else none, fun j q => by simp only [dif_pos q]; exact (hpos2 j q).choose_spec⟩
  obtain ⟨dd, hdd⟩ : ∃ d : Nat → Nat, ∀ j, j < 14 → vs[j]? = some (.slice (B j) (R j).length (d j)) :=
    ⟨fun j => if q : j < 14 then (hB j q).choose else 0, fun j q => by simp only [dif_pos q]; exact (hB j q).choose_spec⟩
  clear hpos hpos2 had hB
  obtain ⟨n, hn⟩ : ∃ n : Nat → Nat, n = fun j => (R j).length := ⟨_, rfl⟩
  have hc' : ∀ j, j < 14 → cs[j]? = some (.slice (some (ad j)) (n j) (c j)) ∧ n j + 1 ≤ c j ∧ n j ≤ 100000000 ∧ (ad j).block < W.heap.size ∧ W.cell? (((ad j).add (n j * szJ j)).add (behC j)) = some (behV j) := by rw [hn]; exact hc
  have hdd' : ∀ j, j < 14 → vs[j]? = some (.slice (B j) (n j) (dd j)) := by rw [hn]; exact hdd
  clear hc hdd
  have hown : ∀ j, j < 14 → ∀ w2, Below W.drew.heap.size W.drew w2 → w2.cell? ⟨ob, j, none⟩ = some (.slice (some (ad j)) (n j) (c j)) := fun j hj w2 hw => by
    rw [hw.cell (p := ⟨ob, j, none⟩) c0.lt]
    exact (c0.cell j).trans (hc' j hj).1
  have hhc : ∀ j, j < 14 → ∀ w2, Below W.drew.heap.size W.drew w2 → w2.cell? ⟨hb, j, none⟩ = some (.slice (B j) (n j) (dd j)) := fun j hj w2 hw => by
    rw [hw.cell (p := ⟨hb, j, none⟩) c1.lt]
    exact (c1.cell j).trans (hdd' j hj)
  have hbe : ∀ j, j < 14 → ∀ w2, Below W.drew.heap.size W.drew w2 → w2.cell? (((ad j).add (n j * szJ j)).add (behC j)) = some (behV j) := fun j hj w2 hw => by
    rw [hw.cell (p := ((ad j).add (n j * szJ j)).add (behC j)) (by rw [add_of_add, block_of_add]; exact (hc' j hj).2.2.2.1)]
    exact (hc' j hj).2.2.2.2
  refine wp_seq ?_
  show Code.wp _ (Code.region _ kOps true) _ a3 W
  refine fix_region (S := Below W.drew.heap.size W.drew) (lo := 5) (r := 4) (F := kF (kv cs vs ob hb ad c B dd n)) (by kernel_rfl) kChk (by decide) (by rw [kF_size]; decide) (by rw [kSz, kF_size]; decide) (Below.refl _ _) (by rw [z1, kF_size]) (fun t ht hr => ?_) (fun i o ho => AllS.at_ (l := kOps.toList) ?_ i o (by simpa using ho)) fun a' w' hS' hz' hd' hv' => ?_
  · rw [kF_at _ (by omega)]
    have : t = 0 ∨ t = 1 ∨ t = 2 ∨ t = 3 := by omega
    rcases this with rfl | rfl | rfl | rfl
    · exact s0
    · exact s1
    · exact v2
    · exact v3
  · have hl1 := hO.len
    have hl2 := hH.len
    have ev : ∀ t : Nat, t < 232 → (kF (kv cs vs ob hb ad c B dd n)).eval (.tmp t) = kv cs vs ob hb ad c B dd n t := fun t ht => kF_at _ ht
    have hld : ∀ (b : Nat) (xs : List Value) (T0 : World), Cs b 37 xs W → xs.length = 15 → ∀ w2, Below W.drew.heap.size W.drew w2 → (loadVar 37 ⟨b, 0, none⟩).run Tryz.prog w2 = .ok (.agg xs.toArray) w2 := fun b xs _ hxs hl w2 hw => run_loadVar_at w2 ⟨b, 0, none⟩ 37 xs _ (fun q v hv => by rw [add0B, hw.cell (p := ⟨b, q, none⟩) hxs.lt]; exact (hxs.cell q).trans hv) Tryz.underlying37 rfl (by rw [hl]; exact size_ofP info_houseL)
    refine ldH_ok (s := 2) (d := 5) ⟨rfl, rfl, rfl⟩ (by decide) (by decide) rfl rfl (hld ob cs W c0 hl1) ?_
    refine ldH_ok (s := 3) (d := 6) ⟨rfl, rfl, rfl⟩ (by decide) (by decide) rfl rfl (hld hb vs W c1 hl2) ?_
    refine ⟨fun d hd => ⟨wantedN rfl, fun w2 hw => .inr ⟨15, #[.agg cs.toArray, .agg vs.toArray], ?_, ?_⟩⟩, ?_⟩
    · have e5 := ev 5 (by decide); have e6 := ev 6 (by decide)
      have e5' : (kF (kv cs vs ob hb ad c B dd n)).tmps[5]?.getD undef = .agg cs.toArray := by rw [← Array.getD_eq_getD_getElem?]; exact e5
      have e6' : (kF (kv cs vs ob hb ad c B dd n)).tmps[6]?.getD undef = .agg vs.toArray := by rw [← Array.getD_eq_getD_getElem?]; exact e6
      unfold execOp
      simp [go_sem, e5', e6']
    · have hd7 : d = 7 := by cases hd; rfl
      subst hd7
      rw [ev 7 (by decide)]
      have hbw : Below W.heap.size W w2 := (Below.refl _ W).drew.trans hw
      refine (Same_any (w := w2) (hO.house.below hbw) (hH.below hbw)).mono fun e w3 h => ⟨h.1, hw.trans (h.2.mono hw.size)⟩
    refine move_ok (s := 7) (d := 8) ⟨rfl, rfl, rfl⟩ (by decide) (by decide) rfl ?_
    obtain ⟨inf0, hi0, -⟩ := infoParts info_item
    refine conj_ok (S := 22) (T := 59) (ft := 9) (j := 0) (g := 3) (b := 9) (fx := 0) ⟨⟨rfl, rfl, rfl⟩, ⟨rfl, rfl, rfl⟩, ⟨rfl, rfl, rfl⟩, ⟨rfl, rfl, rfl⟩, ⟨rfl, rfl, rfl⟩, ⟨_, rfl, rfl, rfl⟩, ⟨rfl, rfl, rfl⟩, ⟨rfl, rfl, rfl⟩, ⟨rfl, rfl, rfl⟩, ⟨rfl, rfl, rfl⟩, ⟨rfl, rfl, rfl⟩, ⟨rfl, rfl, rfl⟩, ⟨rfl, rfl, rfl⟩, ⟨rfl, rfl⟩, ⟨rfl, rfl, rfl⟩⟩ rfl rfl (by decide) lb_item Tryz.underlying22 hi0 fk_item (fun w => by simp [go_sem]) (fun ρ w2 hx hcn => eql_s _ _ _ _ _ rfl hx hcn w2) (hown 0 (by decide)) (hhc 0 (by decide)) (hc' 0 (by decide)).2.1 (hc' 0 (by decide)).2.2.1 (hbe 0 (by decide)) ?_
    refine move_ok (s := 23) (d := 24) ⟨rfl, rfl, rfl⟩ (by decide) (by decide) rfl ?_
    obtain ⟨inf1, hi1, -⟩ := infoParts info_lot
    refine conj_ok (S := 23) (T := 62) (ft := 9) (j := 1) (g := 19) (b := 25) (fx := 1) ⟨⟨rfl, rfl, rfl⟩, ⟨rfl, rfl, rfl⟩, ⟨rfl, rfl, rfl⟩, ⟨rfl, rfl, rfl⟩, ⟨rfl, rfl, rfl⟩, ⟨_, rfl, rfl, rfl⟩, ⟨rfl, rfl, rfl⟩, ⟨rfl, rfl, rfl⟩, ⟨rfl, rfl, rfl⟩, ⟨rfl, rfl, rfl⟩, ⟨rfl, rfl, rfl⟩, ⟨rfl, rfl, rfl⟩, ⟨rfl, rfl, rfl⟩, ⟨rfl, rfl⟩, ⟨rfl, rfl, rfl⟩⟩ rfl rfl (by decide) lb_lot Tryz.underlying23 hi1 fk_lot (fun w => by simp [go_sem]) (fun ρ w2 hx hcn => eql_s _ _ _ _ _ rfl hx hcn w2) (hown 1 (by decide)) (hhc 1 (by decide)) (hc' 1 (by decide)).2.1 (hc' 1 (by decide)).2.2.1 (hbe 1 (by decide)) ?_
    refine move_ok (s := 39) (d := 40) ⟨rfl, rfl, rfl⟩ (by decide) (by decide) rfl ?_
    obtain ⟨inf2, hi2, -⟩ := infoParts info_zone
    refine conj_ok (S := 24) (T := 65) (ft := 9) (j := 2) (g := 35) (b := 41) (fx := 0) ⟨⟨rfl, rfl, rfl⟩, ⟨rfl, rfl, rfl⟩, ⟨rfl, rfl, rfl⟩, ⟨rfl, rfl, rfl⟩, ⟨rfl, rfl, rfl⟩, ⟨_, rfl, rfl, rfl⟩, ⟨rfl, rfl, rfl⟩, ⟨rfl, rfl, rfl⟩, ⟨rfl, rfl, rfl⟩, ⟨rfl, rfl, rfl⟩, ⟨rfl, rfl, rfl⟩, ⟨rfl, rfl, rfl⟩, ⟨rfl, rfl, rfl⟩, ⟨rfl, rfl⟩, ⟨rfl, rfl, rfl⟩⟩ rfl rfl (by decide) lb_zone Tryz.underlying24 hi2 fk_zone (fun w => by simp [go_sem]) (fun ρ w2 hx hcn => eql_s _ _ _ _ _ rfl hx hcn w2) (hown 2 (by decide)) (hhc 2 (by decide)) (hc' 2 (by decide)).2.1 (hc' 2 (by decide)).2.2.1 (hbe 2 (by decide)) ?_
    refine move_ok (s := 55) (d := 56) ⟨rfl, rfl, rfl⟩ (by decide) (by decide) rfl ?_
    obtain ⟨inf3, hi3, -⟩ := infoParts info_bin
    refine conj_ok (S := 25) (T := 68) (ft := 9) (j := 3) (g := 51) (b := 57) (fx := 0) ⟨⟨rfl, rfl, rfl⟩, ⟨rfl, rfl, rfl⟩, ⟨rfl, rfl, rfl⟩, ⟨rfl, rfl, rfl⟩, ⟨rfl, rfl, rfl⟩, ⟨_, rfl, rfl, rfl⟩, ⟨rfl, rfl, rfl⟩, ⟨rfl, rfl, rfl⟩, ⟨rfl, rfl, rfl⟩, ⟨rfl, rfl, rfl⟩, ⟨rfl, rfl, rfl⟩, ⟨rfl, rfl, rfl⟩, ⟨rfl, rfl, rfl⟩, ⟨rfl, rfl⟩, ⟨rfl, rfl, rfl⟩⟩ rfl rfl (by decide) lb_bin Tryz.underlying25 hi3 fk_bin (fun w => by simp [go_sem]) (fun ρ w2 hx hcn => eql_s _ _ _ _ _ rfl hx hcn w2) (hown 3 (by decide)) (hhc 3 (by decide)) (hc' 3 (by decide)).2.1 (hc' 3 (by decide)).2.2.1 (hbe 3 (by decide)) ?_
    refine move_ok (s := 71) (d := 72) ⟨rfl, rfl, rfl⟩ (by decide) (by decide) rfl ?_
    obtain ⟨inf4, hi4, -⟩ := infoParts info_quant
    refine conj_ok (S := 26) (T := 73) (ft := 3) (j := 4) (g := 67) (b := 73) (fx := 1) ⟨⟨rfl, rfl, rfl⟩, ⟨rfl, rfl, rfl⟩, ⟨rfl, rfl, rfl⟩, ⟨rfl, rfl, rfl⟩, ⟨rfl, rfl, rfl⟩, ⟨_, rfl, rfl, rfl⟩, ⟨rfl, rfl, rfl⟩, ⟨rfl, rfl, rfl⟩, ⟨rfl, rfl, rfl⟩, ⟨rfl, rfl, rfl⟩, ⟨rfl, rfl, rfl⟩, ⟨rfl, rfl, rfl⟩, ⟨rfl, rfl, rfl⟩, ⟨rfl, rfl⟩, ⟨rfl, rfl, rfl⟩⟩ rfl rfl (by decide) lb_quant Tryz.underlying26 hi4 fk_quant (fun w => by simp [go_sem]) (fun ρ w2 hx hcn => eql_i _ _ _ _ _ rfl hx hcn w2) (hown 4 (by decide)) (hhc 4 (by decide)) (hc' 4 (by decide)).2.1 (hc' 4 (by decide)).2.2.1 (hbe 4 (by decide)) ?_
    refine move_ok (s := 87) (d := 88) ⟨rfl, rfl, rfl⟩ (by decide) (by decide) rfl ?_
    obtain ⟨inf5, hi5, -⟩ := infoParts info_rule
    refine conj_ok (S := 27) (T := 76) (ft := 9) (j := 5) (g := 83) (b := 89) (fx := 1) ⟨⟨rfl, rfl, rfl⟩, ⟨rfl, rfl, rfl⟩, ⟨rfl, rfl, rfl⟩, ⟨rfl, rfl, rfl⟩, ⟨rfl, rfl, rfl⟩, ⟨_, rfl, rfl, rfl⟩, ⟨rfl, rfl, rfl⟩, ⟨rfl, rfl, rfl⟩, ⟨rfl, rfl, rfl⟩, ⟨rfl, rfl, rfl⟩, ⟨rfl, rfl, rfl⟩, ⟨rfl, rfl, rfl⟩, ⟨rfl, rfl, rfl⟩, ⟨rfl, rfl⟩, ⟨rfl, rfl, rfl⟩⟩ rfl rfl (by decide) lb_rule Tryz.underlying27 hi5 fk_rule (fun w => by simp [go_sem]) (fun ρ w2 hx hcn => eql_s _ _ _ _ _ rfl hx hcn w2) (hown 5 (by decide)) (hhc 5 (by decide)) (hc' 5 (by decide)).2.1 (hc' 5 (by decide)).2.2.1 (hbe 5 (by decide)) ?_
    refine move_ok (s := 103) (d := 104) ⟨rfl, rfl, rfl⟩ (by decide) (by decide) rfl ?_
    obtain ⟨inf6, hi6, -⟩ := infoParts info_notice
    refine conj_ok (S := 28) (T := 82) (ft := 9) (j := 6) (g := 99) (b := 105) (fx := 0) ⟨⟨rfl, rfl, rfl⟩, ⟨rfl, rfl, rfl⟩, ⟨rfl, rfl, rfl⟩, ⟨rfl, rfl, rfl⟩, ⟨rfl, rfl, rfl⟩, ⟨_, rfl, rfl, rfl⟩, ⟨rfl, rfl, rfl⟩, ⟨rfl, rfl, rfl⟩, ⟨rfl, rfl, rfl⟩, ⟨rfl, rfl, rfl⟩, ⟨rfl, rfl, rfl⟩, ⟨rfl, rfl, rfl⟩, ⟨rfl, rfl, rfl⟩, ⟨rfl, rfl⟩, ⟨rfl, rfl, rfl⟩⟩ rfl rfl (by decide) lb_notice Tryz.underlying28 hi6 fk_notice (fun w => by simp [go_sem]) (fun ρ w2 hx hcn => eql_s _ _ _ _ _ rfl hx hcn w2) (hown 6 (by decide)) (hhc 6 (by decide)) (hc' 6 (by decide)).2.1 (hc' 6 (by decide)).2.2.1 (hbe 6 (by decide)) ?_
    refine move_ok (s := 119) (d := 120) ⟨rfl, rfl, rfl⟩ (by decide) (by decide) rfl ?_
    obtain ⟨inf7, hi7, -⟩ := infoParts info_order
    refine conj_ok (S := 29) (T := 85) (ft := 9) (j := 7) (g := 115) (b := 121) (fx := 0) ⟨⟨rfl, rfl, rfl⟩, ⟨rfl, rfl, rfl⟩, ⟨rfl, rfl, rfl⟩, ⟨rfl, rfl, rfl⟩, ⟨rfl, rfl, rfl⟩, ⟨_, rfl, rfl, rfl⟩, ⟨rfl, rfl, rfl⟩, ⟨rfl, rfl, rfl⟩, ⟨rfl, rfl, rfl⟩, ⟨rfl, rfl, rfl⟩, ⟨rfl, rfl, rfl⟩, ⟨rfl, rfl, rfl⟩, ⟨rfl, rfl, rfl⟩, ⟨rfl, rfl⟩, ⟨rfl, rfl, rfl⟩⟩ rfl rfl (by decide) lb_order Tryz.underlying29 hi7 fk_order (fun w => by simp [go_sem]) (fun ρ w2 hx hcn => eql_s _ _ _ _ _ rfl hx hcn w2) (hown 7 (by decide)) (hhc 7 (by decide)) (hc' 7 (by decide)).2.1 (hc' 7 (by decide)).2.2.1 (hbe 7 (by decide)) ?_
    refine move_ok (s := 135) (d := 136) ⟨rfl, rfl, rfl⟩ (by decide) (by decide) rfl ?_
    obtain ⟨inf8, hi8, -⟩ := infoParts info_claim
    refine conj_ok (S := 30) (T := 88) (ft := 9) (j := 8) (g := 131) (b := 137) (fx := 0) ⟨⟨rfl, rfl, rfl⟩, ⟨rfl, rfl, rfl⟩, ⟨rfl, rfl, rfl⟩, ⟨rfl, rfl, rfl⟩, ⟨rfl, rfl, rfl⟩, ⟨_, rfl, rfl, rfl⟩, ⟨rfl, rfl, rfl⟩, ⟨rfl, rfl, rfl⟩, ⟨rfl, rfl, rfl⟩, ⟨rfl, rfl, rfl⟩, ⟨rfl, rfl, rfl⟩, ⟨rfl, rfl, rfl⟩, ⟨rfl, rfl, rfl⟩, ⟨rfl, rfl⟩, ⟨rfl, rfl, rfl⟩⟩ rfl rfl (by decide) lb_claim Tryz.underlying30 hi8 fk_claim (fun w => by simp [go_sem]) (fun ρ w2 hx hcn => eql_s _ _ _ _ _ rfl hx hcn w2) (hown 8 (by decide)) (hhc 8 (by decide)) (hc' 8 (by decide)).2.1 (hc' 8 (by decide)).2.2.1 (hbe 8 (by decide)) ?_
    refine move_ok (s := 151) (d := 152) ⟨rfl, rfl, rfl⟩ (by decide) (by decide) rfl ?_
    obtain ⟨inf9, hi9, -⟩ := infoParts info_task
    refine conj_ok (S := 31) (T := 91) (ft := 9) (j := 9) (g := 147) (b := 153) (fx := 5) ⟨⟨rfl, rfl, rfl⟩, ⟨rfl, rfl, rfl⟩, ⟨rfl, rfl, rfl⟩, ⟨rfl, rfl, rfl⟩, ⟨rfl, rfl, rfl⟩, ⟨_, rfl, rfl, rfl⟩, ⟨rfl, rfl, rfl⟩, ⟨rfl, rfl, rfl⟩, ⟨rfl, rfl, rfl⟩, ⟨rfl, rfl, rfl⟩, ⟨rfl, rfl, rfl⟩, ⟨rfl, rfl, rfl⟩, ⟨rfl, rfl, rfl⟩, ⟨rfl, rfl⟩, ⟨rfl, rfl, rfl⟩⟩ rfl rfl (by decide) lb_task Tryz.underlying31 hi9 fk_task (fun w => by simp [go_sem]) (fun ρ w2 hx hcn => eql_s _ _ _ _ _ rfl hx hcn w2) (hown 9 (by decide)) (hhc 9 (by decide)) (hc' 9 (by decide)).2.1 (hc' 9 (by decide)).2.2.1 (hbe 9 (by decide)) ?_
    refine move_ok (s := 167) (d := 168) ⟨rfl, rfl, rfl⟩ (by decide) (by decide) rfl ?_
    obtain ⟨inf10, hi10, -⟩ := infoParts info_parcel
    refine conj_ok (S := 32) (T := 94) (ft := 9) (j := 10) (g := 163) (b := 169) (fx := 0) ⟨⟨rfl, rfl, rfl⟩, ⟨rfl, rfl, rfl⟩, ⟨rfl, rfl, rfl⟩, ⟨rfl, rfl, rfl⟩, ⟨rfl, rfl, rfl⟩, ⟨_, rfl, rfl, rfl⟩, ⟨rfl, rfl, rfl⟩, ⟨rfl, rfl, rfl⟩, ⟨rfl, rfl, rfl⟩, ⟨rfl, rfl, rfl⟩, ⟨rfl, rfl, rfl⟩, ⟨rfl, rfl, rfl⟩, ⟨rfl, rfl, rfl⟩, ⟨rfl, rfl⟩, ⟨rfl, rfl, rfl⟩⟩ rfl rfl (by decide) lb_parcel Tryz.underlying32 hi10 fk_parcel (fun w => by simp [go_sem]) (fun ρ w2 hx hcn => eql_s _ _ _ _ _ rfl hx hcn w2) (hown 10 (by decide)) (hhc 10 (by decide)) (hc' 10 (by decide)).2.1 (hc' 10 (by decide)).2.2.1 (hbe 10 (by decide)) ?_
    refine move_ok (s := 183) (d := 184) ⟨rfl, rfl, rfl⟩ (by decide) (by decide) rfl ?_
    obtain ⟨inf11, hi11, -⟩ := infoParts info_sent
    refine conj_ok (S := 33) (T := 97) (ft := 9) (j := 11) (g := 179) (b := 185) (fx := 0) ⟨⟨rfl, rfl, rfl⟩, ⟨rfl, rfl, rfl⟩, ⟨rfl, rfl, rfl⟩, ⟨rfl, rfl, rfl⟩, ⟨rfl, rfl, rfl⟩, ⟨_, rfl, rfl, rfl⟩, ⟨rfl, rfl, rfl⟩, ⟨rfl, rfl, rfl⟩, ⟨rfl, rfl, rfl⟩, ⟨rfl, rfl, rfl⟩, ⟨rfl, rfl, rfl⟩, ⟨rfl, rfl, rfl⟩, ⟨rfl, rfl, rfl⟩, ⟨rfl, rfl⟩, ⟨rfl, rfl, rfl⟩⟩ rfl rfl (by decide) lb_sent Tryz.underlying33 hi11 fk_sent (fun w => by simp [go_sem]) (fun ρ w2 hx hcn => eql_s _ _ _ _ _ rfl hx hcn w2) (hown 11 (by decide)) (hhc 11 (by decide)) (hc' 11 (by decide)).2.1 (hc' 11 (by decide)).2.2.1 (hbe 11 (by decide)) ?_
    refine move_ok (s := 199) (d := 200) ⟨rfl, rfl, rfl⟩ (by decide) (by decide) rfl ?_
    obtain ⟨inf12, hi12, -⟩ := infoParts info_counted
    refine conj_ok (S := 34) (T := 100) (ft := 3) (j := 12) (g := 195) (b := 201) (fx := 1) ⟨⟨rfl, rfl, rfl⟩, ⟨rfl, rfl, rfl⟩, ⟨rfl, rfl, rfl⟩, ⟨rfl, rfl, rfl⟩, ⟨rfl, rfl, rfl⟩, ⟨_, rfl, rfl, rfl⟩, ⟨rfl, rfl, rfl⟩, ⟨rfl, rfl, rfl⟩, ⟨rfl, rfl, rfl⟩, ⟨rfl, rfl, rfl⟩, ⟨rfl, rfl, rfl⟩, ⟨rfl, rfl, rfl⟩, ⟨rfl, rfl, rfl⟩, ⟨rfl, rfl⟩, ⟨rfl, rfl, rfl⟩⟩ rfl rfl (by decide) lb_counted Tryz.underlying34 hi12 fk_counted (fun w => by simp [go_sem]) (fun ρ w2 hx hcn => eql_i _ _ _ _ _ rfl hx hcn w2) (hown 12 (by decide)) (hhc 12 (by decide)) (hc' 12 (by decide)).2.1 (hc' 12 (by decide)).2.2.1 (hbe 12 (by decide)) ?_
    refine move_ok (s := 215) (d := 216) ⟨rfl, rfl, rfl⟩ (by decide) (by decide) rfl ?_
    obtain ⟨inf13, hi13, -⟩ := infoParts info_total
    refine conj_ok (S := 35) (T := 103) (ft := 9) (j := 13) (g := 211) (b := 217) (fx := 1) ⟨⟨rfl, rfl, rfl⟩, ⟨rfl, rfl, rfl⟩, ⟨rfl, rfl, rfl⟩, ⟨rfl, rfl, rfl⟩, ⟨rfl, rfl, rfl⟩, ⟨_, rfl, rfl, rfl⟩, ⟨rfl, rfl, rfl⟩, ⟨rfl, rfl, rfl⟩, ⟨rfl, rfl, rfl⟩, ⟨rfl, rfl, rfl⟩, ⟨rfl, rfl, rfl⟩, ⟨rfl, rfl, rfl⟩, ⟨rfl, rfl, rfl⟩, ⟨rfl, rfl⟩, ⟨rfl, rfl, rfl⟩⟩ rfl rfl (by decide) lb_total Tryz.underlying35 hi13 fk_total (fun w => by simp [go_sem]) (fun ρ w2 hx hcn => eql_s _ _ _ _ _ rfl hx hcn w2) (hown 13 (by decide)) (hhc 13 (by decide)) (hc' 13 (by decide)).2.1 (hc' 13 (by decide)).2.2.1 (hbe 13 (by decide)) ?_
    exact as_ok (s := 231) (d := 4) ⟨rfl, rfl, rfl⟩ (by decide) (by decide) rfl trivial
  · have hk := kSz
    have hlast := (chk_spec kChk 227 kOps[227] (by simp [Array.getElem?_eq_getElem (show 227 < kOps.size by rw [kSz]; decide)])).2
    rw [if_pos (by simp [kSz])] at hlast
    have e4 := hv' 227 kOps[227] (Array.getElem?_eq_getElem (by rw [kSz]; decide)) 4 hlast
    rw [kF_at _ (by decide)] at e4
    show Code.wp _ Code.ret _ a' w'
    exact wp_ret ⟨hd'.trans z2, _, res_K e4, rfl, hBW.trans (((Below.refl _ W).drew.trans hS').mono hBW.size)⟩
end Go.Proofs.YtgdoodeibcfcjaaGreat.Wire
