/- A region that draws its order, by its last frame: each operation, run against that frame, yields what it holds; whoever may come up looks at what has come up. (The check is local: a region of 228 operations is checked in a moment.) -/
import Derived.Test.YtgdoodeibcfcjaaGreatBLoop
set_option linter.unusedVariables false
set_option linter.unusedSimpArgs false
namespace Go.Proofs.YtgdoodeibcfcjaaGreat.Wire
open Go.RowKit Go.Proofs.YtgdoodeibcfcjaaGreat.NumsPure Go.Proofs.YtgdoodeibcfcjaaGreat.CPure Go.Proofs.YtgdoodeibcfcjaaGreat.Own
def okOp (lo r k : Nat) (o : Oper) : Bool :=
  (match o.op with | .select .. => false | _ => true) && o.after.all (fun e => decide (e.on < k)) &&
  o.op.operands.all (fun x => match x with | .tmp t => (decide (t < lo) && decide (t ≠ r)) || o.after.any (fun e => Region.binds .any e && decide (lo + e.on = t)) | _ => true) &&
  (match o.guard with | some (g, _) => o.after.any (fun e => Region.binds .any e && decide (e.on = g)) | none => true)
def chkB (lo r : Nat) : Nat → List Oper → Bool
  | _, [] => true
  | k, o :: l => okOp lo r k o && decide (o.dst = some (if l.isEmpty then r else lo + k)) && chkB lo r (k + 1) l
theorem chk_spec {lo r : Nat} : ∀ {l : List Oper} {k : Nat}, chkB lo r k l = true → ∀ i o, l[i]? = some o → okOp lo r (k + i) o = true ∧ o.dst = some (if i + 1 = l.length then r else lo + (k + i))
  | [], k, _, i, o, h => by simp at h
  | p :: l, k, hB, 0, o, h => by
    simp only [chkB, Bool.and_eq_true, decide_eq_true_eq] at hB
    obtain rfl : p = o := by simpa using h
    refine ⟨hB.1.1, ?_⟩
    rw [hB.1.2]
    cases l <;> simp
  | p :: l, k, hB, i + 1, o, h => by
    simp only [chkB, Bool.and_eq_true, decide_eq_true_eq] at hB
    obtain ⟨h1, h2⟩ := chk_spec hB.2 i o (by simpa using h)
    refine ⟨by rw [show k + (i + 1) = k + 1 + i by omega]; exact h1, ?_⟩
    rw [h2]
    have : (i + 1 = l.length) = (i + 1 + 1 = (p :: l).length) := by simp
    simp only [this, show k + (i + 1) = k + 1 + i by omega]
/-- Against this frame the operation yields this value in all these worlds. -/
def SureF (S : World → Prop) (ops : Array Oper) (F : Act) (o : Oper) (v : Value) : Prop := Region.wanted o (yielded ops F.tmps) = true ∧ ∀ w, S w → (execOp F.eval o).run Tryz.prog w = .ok (.value v) w ∨ ∃ f args, (execOp F.eval o).run Tryz.prog w = .ok (.enter f args) w ∧ Calls Tryz.prog f args w fun e w' => e = .returned v ∧ S w'
theorem countP_lt {p q : Nat → Bool} : ∀ (l : List Nat) (i : Nat), (∀ x ∈ l, q x = true → p x = true) → i ∈ l → p i = true → q i = false → l.countP q < l.countP p
  | [], i, _, h, _, _ => by cases h
  | x :: l, i, hq, hi, hp, hn => by
    have hmono : ∀ l : List Nat, (∀ y ∈ l, q y = true → p y = true) → l.countP q ≤ l.countP p := fun l h => List.countP_mono_left h
    have h1 := hmono l fun y hy => hq y (List.mem_cons_of_mem _ hy)
    rcases List.mem_cons.1 hi with rfl | hi'
    · rw [List.countP_cons, List.countP_cons, hp, hn]; simp; omega
    · have h2 := countP_lt l i (fun y hy => hq y (List.mem_cons_of_mem _ hy)) hi' hp hn
      have h3 := hq x List.mem_cons_self
      rw [List.countP_cons, List.countP_cons]
      cases hqx : q x with
      | true => rw [h3 hqx]; simp; omega
      | false => simp; omega
structure FInv (F : Act) (ops : Array Oper) (lo r : Nat) (D : List Deferred) (listed : Array Bool) (a : Act) : Prop where
  size : a.tmps.size = F.tmps.size
  defers : a.defers = D
  low : ∀ t, t < lo → t ≠ r → a.eval (.tmp t) = F.eval (.tmp t)
  done : ∀ i o, ops[i]? = some o → listed.getD i false = true → ∀ d, o.dst = some d → a.eval (.tmp d) = F.eval (.tmp d)
theorem eval_getF {a : Act} {s : Nat} (hs : s < a.tmps.size) : a.tmps[s]? = some (a.eval (.tmp s)) := by
  simp [Act.eval, Array.getD_eq_getD_getElem?, hs]
theorem getD_sz {listed : Array Bool} {n i : Nat} (h : listed.size = n) (hi : i < n) : listed.getD i true = listed.getD i false := by
  simp [h, hi]
section
variable {S : World → Prop} {ops : Array Oper} {lo r : Nat} {F : Act} {D : List Deferred} {Q : Exit → Act → World → Prop}
theorem fix_any (hchk : chkB lo r 0 ops.toList = true) (hlr : r < lo) (hlo : lo ≤ F.tmps.size) (hsz : lo + ops.size ≤ F.tmps.size + 1) (hF : ∀ (i : Nat) (o : Oper), ops[i]? = some o → ∀ d, o.dst = some d → SureF S ops F o (F.eval (.tmp d)))
    (hQ : ∀ a w, S w → a.tmps.size = F.tmps.size → a.defers = D → (∀ (i : Nat) (o : Oper), ops[i]? = some o → ∀ d, o.dst = some d → a.eval (.tmp d) = F.eval (.tmp d)) → Q .normal a w) :
    ∀ (f : Nat) (listed : Array Bool) (a : Act) (w : World), S w → listed.size = ops.size → FInv F ops lo r D listed a → (List.range ops.size).countP (fun j => !listed.getD j true) ≤ f → wpAny Tryz.prog .any ops Q f listed a w := by
  have spec := fun i o (h : ops[i]? = some o) => chk_spec hchk i o (by simpa using h)
  have full : ∀ (listed : Array Bool) (a : Act) (w : World), S w → listed.size = ops.size → FInv F ops lo r D listed a → Region.ready .any ops listed = [] → Q .normal a w := by
    intro listed a w hS hl inv hr
    have all : ∀ i, i < ops.size → listed.getD i false = true := by
      intro i
      induction i using Nat.strongRecOn with
      | _ i ih =>
        intro hi
        by_cases hu : listed.getD i true = true
        · rw [← getD_sz hl hi]; exact hu
        · exfalso
          have hin : i ∈ Region.ready .any ops listed := by
            refine mem_ready.2 ⟨by simpa using hu, ops[i], Array.getElem?_eq_getElem hi, fun e he _ => ?_⟩
            have hok := (spec i ops[i] (Array.getElem?_eq_getElem hi)).1
            simp only [okOp, Bool.and_eq_true, Nat.zero_add] at hok
            obtain ⟨⟨⟨_, haft⟩, _⟩, _⟩ := hok
            rw [Array.all_eq_true'] at haft
            have := haft e he
            simp only [decide_eq_true_eq] at this
            exact ih e.on this (by omega)
          rw [hr] at hin
          cases hin
    exact hQ a w hS inv.size inv.defers fun i o ho d hd => inv.done i o ho (all i (Array.getElem?_eq_some_iff.1 ho).1) d hd
  intro f
  induction f with
  | zero =>
    intro listed a w hS hl inv hc
    have hr : Region.ready .any ops listed = [] := by
      apply List.eq_nil_iff_forall_not_mem.2
      intro j hj
      obtain ⟨hu, o, ho, _⟩ := mem_ready.1 hj
      have hjn := (Array.getElem?_eq_some_iff.1 ho).1
      have : 0 < (List.range ops.size).countP (fun j => !listed.getD j true) := List.countP_pos_iff.2 ⟨j, List.mem_range.2 hjn, by rw [hu]; rfl⟩
      omega
    exact ⟨hr, full listed a w hS hl inv hr⟩
  | succ f ih =>
    intro listed a w hS hl inv hc
    refine ⟨full listed a w hS hl inv, fun i hi => ?_⟩
    obtain ⟨hu, o, ho, hall⟩ := mem_ready.1 hi
    have hin := (Array.getElem?_eq_some_iff.1 ho).1
    obtain ⟨hok, hdst⟩ := spec i o ho
    simp only [okOp, Bool.and_eq_true, Nat.zero_add] at hok
    obtain ⟨⟨⟨hsel, haft⟩, hops⟩, hgd⟩ := hok
    rw [Array.all_eq_true'] at haft hops
    have hsel' : ∀ cs b, o.op ≠ .select cs b := fun cs b e => by rw [e] at hsel; cases hsel
    -- a slot of one that has come up
    have came : ∀ e ∈ o.after, Region.binds .any e = true → a.eval (.tmp (lo + e.on)) = F.eval (.tmp (lo + e.on)) ∧ (ops[e.on]?).bind (·.dst) = some (lo + e.on) := fun e he hb => by
      have hlt : e.on < i := by have := haft e he; simpa using this
      have h1 := hall e he hb
      have hon : e.on < ops.size := by omega
      have hd := (spec e.on ops[e.on] (Array.getElem?_eq_getElem hon)).2
      rw [if_neg (by simp; omega), Nat.zero_add] at hd
      exact ⟨inv.done e.on _ (Array.getElem?_eq_getElem hon) h1 _ hd, by rw [Array.getElem?_eq_getElem hon]; exact hd⟩
    have he : execOp a.eval o = execOp F.eval o := execOp_congr o hsel' fun x hx => by
      have hx' := hops x hx
      cases x with
      | tmp t =>
        simp only [Bool.or_eq_true, Bool.and_eq_true, decide_eq_true_eq] at hx'
        rcases hx' with ⟨h1, h2⟩ | h1
        · exact inv.low t h1 h2
        · obtain ⟨e, he, hb⟩ := Array.any_eq_true'.1 h1
          simp only [Bool.and_eq_true, decide_eq_true_eq] at hb
          rw [← hb.2]
          exact (came e he hb.1).1
      | _ => rfl
    have hw : Region.wanted o (yielded ops a.tmps) = Region.wanted o (yielded ops F.tmps) := by
      unfold Region.wanted
      cases hg : o.guard with
      | none => rfl
      | some gw =>
        obtain ⟨g, want⟩ := gw
        rw [hg] at hgd
        simp only at hgd
        obtain ⟨e, he', hb⟩ := Array.any_eq_true'.1 hgd
        simp only [Bool.and_eq_true, decide_eq_true_eq] at hb
        obtain ⟨c1, c2⟩ := came e he' hb.1
        rw [hb.2] at c1 c2
        have hlt : e.on < i := by have := haft e he'; simpa using this
        have hy : yielded ops a.tmps g = yielded ops F.tmps g := by
          unfold yielded
          rw [c2]
          have s1 : lo + g < a.tmps.size := by rw [inv.size]; omega
          have s2 : lo + g < F.tmps.size := by omega
          have e1 : a.tmps[lo + g]? = F.tmps[lo + g]? := by
            rw [eval_getF s1, eval_getF s2, c1]
          simp only [Option.bind_some, e1]
        simp only [hy]
    obtain ⟨hwF, hrun⟩ := hF i o ho _ hdst
    obtain ⟨d, hd⟩ : ∃ d, d = (if i + 1 = ops.toList.length then r else lo + (0 + i)) := ⟨_, rfl⟩
    rw [← hd] at hdst hrun
    have hlen : ops.toList.length = ops.size := by simp
    have hdlt : d < F.tmps.size := by rw [hd]; split <;> omega
    have next : ∀ w', S w' → wpAny Tryz.prog .any ops Q f (listed.setIfInBounds i true) (a.put o.dst (F.eval (.tmp d))) w' := by
      intro w' hS'
      rw [hdst]
      refine ih _ _ w' hS' (by simpa using hl) ⟨(put_size _ _ _).trans inv.size, (put_defers _ _ _).trans inv.defers, fun t ht htr => ?_, fun k ok hk hlk d' hd' => ?_⟩ ?_
      · rw [put_other _ (by rw [hd]; split <;> omega)]
        exact inv.low t ht htr
      · by_cases e : d' = d
        · subst e
          exact put_same _ (by rw [inv.size]; exact hdlt)
        · rw [put_other _ e]
          refine inv.done k ok hk ?_ d' hd'
          by_cases hki : k = i
          · exfalso
            subst hki
            rw [ho] at hk
            cases hk
            rw [hdst] at hd'
            cases hd'
            exact e rfl
          · rw [getD_set_ne false (Ne.symm hki)] at hlk
            exact hlk
      · have hlt := countP_lt (p := fun j => !listed.getD j true) (q := fun j => !(listed.setIfInBounds i true).getD j true) (List.range ops.size) i (fun x _ hx => by
          by_cases hxi : x = i
          · subst hxi; simp only [hu]; rfl
          · have := getD_set_ne (listed := listed) (i := i) (j := x) true (Ne.symm hxi)
            rw [this] at hx
            exact hx) (List.mem_range.2 hin) (by simp only [hu]; rfl) (by simp [hl, hin])
        omega
    unfold wpOp
    rw [ho]
    rw [← hw] at hwF
    simp only [hwF, if_true]
    refine .inl ?_
    unfold Oper.wp
    rw [he]
    rcases hrun w hS with q | ⟨f', args, q, hcl⟩
    · rw [q, Oper.upon_value]; exact next w hS
    · rw [q, Oper.upon_enter]
      refine Calls.mono hcl fun e' w' he' => ?_
      obtain ⟨rfl, hs⟩ := he'
      exact next w' hs
theorem fix_region {id : Nat} {a : Act} {w : World} (hm : Tryz.prog.follows .mixedOrders = true) (hchk : chkB lo r 0 ops.toList = true) (hlr : r < lo) (hlo : lo ≤ F.tmps.size) (hsz : lo + ops.size ≤ F.tmps.size + 1) (hS : S w.drew) (hza : a.tmps.size = F.tmps.size) (hlow : ∀ t, t < lo → t ≠ r → a.eval (.tmp t) = F.eval (.tmp t))
    (hF : ∀ (i : Nat) (o : Oper), ops[i]? = some o → ∀ d, o.dst = some d → SureF S ops F o (F.eval (.tmp d)))
    (hQ : ∀ a' w', S w' → a'.tmps.size = F.tmps.size → a'.defers = a.defers → (∀ (i : Nat) (o : Oper), ops[i]? = some o → ∀ d, o.dst = some d → a'.eval (.tmp d) = F.eval (.tmp d)) → Q .normal a' w') : (Code.region id ops true).wp Tryz.prog Q a w := by
  refine wp_region_any hm ?_
  refine fix_any hchk hlr hlo hsz hF hQ ops.size _ a _ hS (by simp) ⟨hza, rfl, hlow, fun i o ho hl d hd => ?_⟩ ?_
  · rw [getD_replicate_false] at hl; cases hl
  · have := List.countP_le_length (p := fun j => !(Array.replicate ops.size false).getD j true) (l := List.range ops.size)
    simpa using this
def AllS (S : World → Prop) (ops : Array Oper) (F : Act) : List Oper → Prop
  | [] => True
  | o :: l => (∀ d, o.dst = some d → SureF S ops F o (F.eval (.tmp d))) ∧ AllS S ops F l
theorem AllS.at_ : ∀ {l : List Oper}, AllS S ops F l → ∀ (i : Nat) (o : Oper), l[i]? = some o → ∀ d, o.dst = some d → SureF S ops F o (F.eval (.tmp d))
  | [], _, i, o, h => by simp at h
  | p :: l, h, 0, o, ho => by
    obtain rfl : p = o := by simpa using ho
    exact h.1
  | p :: l, h, i + 1, o, ho => AllS.at_ h.2 i o (by simpa using ho)
theorem wantedN {o : Oper} (h : o.guard = none) : Region.wanted o (yielded ops F.tmps) = true := by simp [Region.wanted, h]
theorem wantedT {o : Oper} {g : Nat} (hchk : chkB lo r 0 ops.toList = true) (h : o.guard = some (g, true)) (hg : g + 1 < ops.size) (hlt : lo + g < F.tmps.size) (hv : F.eval (.tmp (lo + g)) = .bool true) : Region.wanted o (yielded ops F.tmps) = true := by
  have hd := (chk_spec hchk g ops[g] (by simp [Array.getElem?_eq_getElem (show g < ops.size by omega)])).2
  rw [if_neg (by simp; omega), Nat.zero_add] at hd
  have hy : yielded ops F.tmps g = some true := by
    unfold yielded
    rw [Array.getElem?_eq_getElem (show g < ops.size by omega)]
    simp only [Option.bind_some, hd, eval_getF hlt, hv]
  simp [Region.wanted, h, hy]
end
end Go.Proofs.YtgdoodeibcfcjaaGreat.Wire
