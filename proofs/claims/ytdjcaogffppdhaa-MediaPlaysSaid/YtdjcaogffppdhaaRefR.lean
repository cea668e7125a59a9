/- The reference's media: Remove, Size and Files. -/
import Derived.Test.YtdjcaogffppdhaaRefW
import Derived.Test.YtdjcaogffppdhaaApp
set_option linter.unusedVariables false
set_option linter.unusedSimpArgs false
namespace Go.Proofs.Ytdjcaogffppdhaa.Ref
open Go.RowKit Go.Proofs.Ytdjcaogffppdhaa.SumPure Go.Proofs.YtdjcaogffppdhaaW.PrintWords Go.Proofs.YtdjcaogffppdhaaW.PrintLast Go.Proofs.YtdjcaogffppdhaaW.PrintMore Go.Proofs.Ytdjcaogffppdhaa.App
attribute [local go_sem] max2_int min2_int max_two min_two
def rsz1 (f : Int) (n : Int) (x : Item) : Int := if x.1 = f then (if n < x.2.1 + 1 then x.2.1 + 1 else n) else n
def rsz (f : Int) (l : List Item) : Int := l.foldl (rsz1 f) 0
def ins (f : Int) : List Int → List Int
  | [] => [f]
  | x :: l => if x < f then x :: ins f l else if x = f then x :: l else f :: x :: l
def filesL (l : List Item) : List Int := l.foldl (fun out x => ins x.1 out) []
def R.remove (r : R) (f : Int) : R × Int :=
  if r.off = true then (r, 40) else if right f 0 = false then (r, 42) else
    if r.act.2 = true then ({ r.act.1 with L := r.act.1.L.filter fun x => decide (x.1 ≠ f) }, 0) else (r.act.1, 40)
theorem fold_snoc {α β : Type} (g : β → α → β) (z : β) {l : List α} {i : Nat} {x : α} (hx : l[i]? = some x) : (l.take (i + 1)).foldl g z = g ((l.take i).foldl g z) x := by
  have hi : i < l.length := (List.getElem?_eq_some_iff.1 hx).1
  have hx' : l[i] = x := (List.getElem?_eq_some_iff.1 hx).2
  rw [List.take_succ_eq_append_getElem hi, hx', List.foldl_append]; rfl
theorem filter_snoc (p : Item → Bool) {l : List Item} {i : Nat} {x : Item} (hx : l[i]? = some x) : (l.take (i + 1)).filter p = (l.take i).filter p ++ if p x then [x] else [] := by
  have hi : i < l.length := (List.getElem?_eq_some_iff.1 hx).1
  have hx' : l[i] = x := (List.getElem?_eq_some_iff.1 hx).2
  rw [List.take_succ_eq_append_getElem hi, hx', List.filter_append, List.filter_cons]
  split <;> rfl
theorem rsz_bd (f : Int) (l : List Item) (h : ∀ x ∈ l, 0 ≤ x.2.1 ∧ x.2.1 < 65536) (i : Nat) : 0 ≤ (l.take i).foldl (rsz1 f) 0 ∧ (l.take i).foldl (rsz1 f) 0 ≤ 65536 := by
  have key : ∀ (l : List Item) (n : Int), (∀ x ∈ l, 0 ≤ x.2.1 ∧ x.2.1 < 65536) → 0 ≤ n → n ≤ 65536 → 0 ≤ l.foldl (rsz1 f) n ∧ l.foldl (rsz1 f) n ≤ 65536 := by
    intro l
    induction l with
    | nil => intro n _ h0 h1; exact ⟨h0, h1⟩
    | cons x l ih =>
      intro n hx h0 h1
      have := hx x List.mem_cons_self
      refine ih _ (fun y hy => hx y (List.mem_cons_of_mem _ hy)) ?_ ?_
      · unfold rsz1; split <;> (try split) <;> omega
      · unfold rsz1; split <;> (try split) <;> omega
  exact key _ 0 (fun x hx => h x (List.mem_of_mem_take hx)) (by omega) (by omega)
set_option maxHeartbeats 16000000 in
set_option maxRecDepth 100000 in
theorem size_calls {w : World} {own : Nat → Prop} {b : Nat} {r : R} {n : Nat} (h : IsRef w own b r n) (f : Int) (hr : ∀ x ∈ r.L, 0 ≤ x.2.1 ∧ x.2.1 < 65536) (hn : n < 1000000000) :
    Calls Try.prog 29 #[.pointer (some ⟨b, 0, none⟩), .int .i64 f] w fun e w' => e = .returned (.int .i64 (rsz f r.L)) ∧ w' = w := by
  obtain ⟨v, h1, _, _⟩ := h
  have hu := Try.underlying75
  obtain ⟨A, c, rfl⟩ := h1.shape
  have c0 : w.cell? ⟨b, 0, none⟩ = some (.slice A r.L.length c) := by have := h1.hb; simp [World.cell?, this]
  have hlen := h1.len
  have H1 := Aside0.mk h1
  obtain ⟨P, hP⟩ : ∃ P, P = rsz f r.L := ⟨_, rfl⟩
  rw [← hP]
  have HP := Aside0.mk hP
  have HB := Aside0.mk (rsz_bd f r.L hr)
  have HR := Aside0.mk hr
  clear hP h1 hr
  go_enter Try.func29, Try.ntmps29
  go_wp2
  go_loop [5, 6] (fun v5 v6 => ∃ (i : Nat) (q : Int), i ≤ r.L.length ∧ v6 = .int .i64 i ∧ v5 = .int .i64 q ∧ 0 ≤ q ∧ q ≤ 65536 ∧ Aside0 (q = (r.L.take i).foldl (rsz1 f) 0)) (fun _ v6 => r.L.length - (intOf v6).toNat)
  case atStart => exact ⟨0, 0, by omega, rfl, rfl, by omega, by omega, ⟨rfl⟩⟩
  case round =>
    obtain ⟨i, q, hi, rfl, rfl, q0, q1, HQ⟩ := hrel
    by_cases hlt : i < r.L.length
    · obtain ⟨g, c', x, hv, hx, hne, hcl, hcm, d0, d1, d2, df⟩ := H1.out.at_ hlt
      cases hv
      have HX := Aside0.mk hx
      obtain ⟨a0, a1⟩ := HR.out x (List.mem_of_getElem? hx)
      clear hx df
      by_cases t1 : x.1 = f
      · have t2 : (x.1 == f) = true := by simp [t1]
        have HT := Aside0.mk t1
        clear t1
        by_cases t3 : q < x.2.1 + 1
        · go_wp2
          go_round
          case rel => exact ⟨i + 1, x.2.1 + 1, by omega, by go_num, rfl, by omega, by omega, ⟨by rw [fold_snoc _ _ HX.out, ← HQ.out]; unfold rsz1; rw [if_pos HT.out, if_pos t3]⟩⟩
          case measure => simp [intOf]; omega
        · go_wp2
          go_round
          case rel => exact ⟨i + 1, q, by omega, by go_num, rfl, by omega, by omega, ⟨by rw [fold_snoc _ _ HX.out, ← HQ.out]; unfold rsz1; rw [if_pos HT.out, if_neg t3]⟩⟩
          case measure => simp [intOf]; omega
      · have t2 : (x.1 == f) = false := by simp [t1]
        have HT := Aside0.mk t1
        clear t1
        go_wp2
        go_round
        case rel => exact ⟨i + 1, q, by omega, by go_num, rfl, by omega, by omega, ⟨by rw [fold_snoc _ _ HX.out, ← HQ.out]; unfold rsz1; rw [if_neg HT.out]⟩⟩
        case measure => simp [intOf]; omega
    · have e : P = q := by rw [HP.out, HQ.out, List.take_of_length_le (by omega)]; rfl
      subst e
      go_wp2
      go_ret
      exact ⟨rfl, rfl⟩
/-! ### Remove -/
theorem removed {own : Nat → Prop} {w1 wr : World} {b : Nat} {v v5 : Value} {r1 : R} {n : Nat} {K : List Item} (h : Rep w1 b v r1 n) (ho : wr.ownsRow w1.heap.size 77 3 v5 K.length (cellsOf K)) (hk : K.length ≤ n) (hb : Below w1.heap.size w1 wr) (hw : own b) :
    Rep (wr.setCell ⟨b, 0, none⟩ v5) b v5 { r1 with L := K } n ∧ Med.Frame own w1 (wr.setCell ⟨b, 0, none⟩ v5) ∧ ∀ g, v5.ownBlock = some g → w1.heap.size ≤ g := by
  have hbr : wr.heap[b]? = some (.cells #[v, .bool r1.armed, .int .i64 r1.left, .bool r1.off, .int .i64 r1.writes] 75 (0, 0)) := (hb.block b h.lt.1).trans h.hb
  refine ⟨⟨?_, ?_, h.l0, h.l1, h.w0, h.w1, hk⟩, ⟨hb.os, hb.tape, hb.output, by have := hb.size; simpa using this, fun j hj hn => ?_⟩, fun g hg => (ho.lt g hg).1⟩
  · rw [Med.heap_set hbr 0 _]; rfl
  · show World.ownsRow _ 0 _ _ _ K.length (cellsOf K)
    refine ⟨ho.1, ?_⟩
    rcases ho.2 with e | ⟨g, cap, cur, e, h1, hgh, rest⟩
    · exact .inl e
    · have := h.lt.1
      exact .inr ⟨g, cap, cur, e, Nat.zero_le _, (Med.heap_set_ne (by omega) _ _).trans hgh, rest⟩
  · rw [Med.heap_set_ne (fun e => hn (by rw [e]; exact hw)), hb.block j hj]
theorem Rep.below {w w' : World} {b : Nat} {v : Value} {r : R} {n : Nat} (h : Rep w b v r n) (k : Below w.heap.size w w') : Rep w' b v r n := h.same fun i hi => by
  rcases hi with rfl | hi
  · exact k.block _ h.lt.1
  · exact k.block _ (h.lt.2 i hi)
set_option maxHeartbeats 16000000 in
set_option maxRecDepth 100000 in
theorem remove_calls {w : World} {own : Nat → Prop} {b : Nat} {r : R} {n : Nat} (h : IsRef w own b r n) (f : Int) (hn : n < 100000000) :
    Calls Try.prog 20 #[.pointer (some ⟨b, 0, none⟩), .int .i64 f] w fun e w' => e = .returned (.int .i64 (r.remove f).2) ∧ Left own b w (r.remove f).1 (n + 2) w' := by
  have hu := Try.underlying75
  have c3 : w.cell? ⟨b, 3, none⟩ = some (.bool r.off) := by obtain ⟨v, h1, _⟩ := h; have := h1.hb; simp [World.cell?, this]
  have H0 := Aside0.mk h
  obtain ⟨P, hP⟩ : ∃ P, P = r.remove f := ⟨_, rfl⟩
  rw [← hP]
  unfold R.remove at hP
  have HP := Aside0.mk hP
  clear hP h
  have hr := right_calls f 0
  cases ho : r.off with
  | true =>
    rw [ho] at c3 HP
    have e : P = (r, 40) := by rw [HP.out, if_pos rfl]
    subst e
    clear ho
    go_enter Try.func20, Try.ntmps20
    go_wp2
    go_ret
    exact ⟨rfl, own, H0.out.mono (by omega), fun j hj => .inl hj, Med.Frame.refl _ _⟩
  | false =>
    rw [ho] at c3 HP
    clear ho
    cases hg : right f 0 with
    | false =>
      rw [hg] at hr HP
      have e : P = (r, 42) := by rw [HP.out]; simp
      subst e
      clear hg
      go_enter Try.func20, Try.ntmps20
      go_wp2_with (go_at_call 41; refine (hr _).mono ?_; rintro e w' ⟨rfl, rfl⟩)
      go_ret
      exact ⟨rfl, own, H0.out.mono (by omega), fun j hj => .inl hj, Med.Frame.refl _ _⟩
    | true =>
      rw [hg] at hr HP
      clear hg
      have HP2 : Aside0 (P = if r.act.2 = true then ({ r.act.1 with L := r.act.1.L.filter fun x => decide (x.1 ≠ f) }, 0) else (r.act.1, 40)) := ⟨by rw [HP.out, if_neg (by simp), if_neg (by simp)]⟩
      clear HP
      have hac := act_calls H0.out (by omega)
      generalize r.act = q at *
      obtain ⟨r1, q2⟩ := q
      cases q2 with
      | false =>
        have e : P = (r1, 40) := by rw [HP2.out]; simp
        subst e
        go_enter Try.func20, Try.ntmps20
        go_wp2_with (first | (go_at_call 41; refine (hr _).mono ?_; rintro e w' ⟨rfl, rfl⟩) | (go_at_call 42; refine hac.mono ?_; rintro e w1 ⟨rfl, hq1, hq2⟩; have HQ := Aside0.mk (And.intro hq1 hq2); clear hq1 hq2))
        go_ret
        exact ⟨rfl, own, HQ.out.1.mono (by omega), fun j hj => .inl hj, HQ.out.2⟩
      | true =>
        have HP3 : Aside0 (P = ({ r1 with L := r1.L.filter fun x => decide (x.1 ≠ f) }, 0)) := ⟨by rw [HP2.out]; simp⟩
        clear HP2
        go_enter Try.func20, Try.ntmps20
        go_upto_region 7 with (first | (go_at_call 41; refine (hr _).mono ?_; rintro e w' ⟨rfl, rfl⟩) | (go_at_call 42; refine hac.mono ?_; rintro e w1 ⟨rfl, hq1, hq2⟩; have HQ := Aside0.mk (And.intro hq1 hq2); clear hq1 hq2))
        clear hac hr c3
        obtain ⟨v, h1, h2, h3⟩ := HQ.out.1
        have HH1 := Aside0.mk h1
        have H2 : Aside0 (own b) := ⟨h2⟩
        have hlen := h1.len
        clear h1 h2 h3
        obtain ⟨i0, hi0, hz0, hz1, hz2⟩ := infoParts3 sectorInfo
        go_wp2
        go_loopw [5, 6] (fun v5 v6 wr => ∃ i : Nat, i ≤ r1.L.length ∧ v6 = .int .i64 i ∧ Aside0 (wr.ownsRow w1.heap.size 77 3 v5 ((r1.L.take i).filter fun x => decide (x.1 ≠ f)).length (cellsOf ((r1.L.take i).filter fun x => decide (x.1 ≠ f)))) ∧ Aside0 (Below w1.heap.size w1 wr)) (fun _ v6 _ => r1.L.length - (intOf v6).toNat)
        case atStart => exact ⟨0, by omega, rfl, ⟨World.ownsRow_nil _ _ _ _⟩, ⟨Below.refl _ _⟩⟩
        case round =>
          obtain ⟨i, hi, rfl, HO, HB⟩ := hrel
          have h1r := HH1.out.below HB.out
          obtain ⟨A, c, hvA⟩ := HH1.out.shape
          have c0 : wr.cell? ⟨b, 0, none⟩ = some (.slice A r1.L.length c) := by have := h1r.hb; simp [World.cell?, this, hvA]
          by_cases hlt : i < r1.L.length
          · obtain ⟨g, c', x, hv, hx, hne, hcl, hcm, d0, d1, d2, df⟩ := h1r.at_ hlt
            rw [hvA] at hv
            cases hv
            have HX := Aside0.mk hx
            have HVA := Aside0.mk hvA
            have hfs := filter_snoc (fun x => decide (x.1 ≠ f)) hx
            clear hx df hvA h1r
            by_cases t1 : x.1 = f
            · have t2 : (x.1 != f) = false := by simp [t1]
              have t3 : decide (x.1 ≠ f) = false := by simp [t1]
              rw [t3, if_neg (by decide), List.append_nil] at hfs
              have HFS := Aside0.mk hfs
              clear t1 t3 hfs
              go_wp2
              go_roundw
              case rel => exact ⟨i + 1, by omega, by go_num, ⟨by rw [HFS.out]; exact HO.out⟩, HB⟩
              case measure => simp [intOf]; omega
            · have t2 : (x.1 != f) = true := by simp [t1]
              have t3 : decide (x.1 ≠ f) = true := by simp [t1]
              rw [t3, if_pos rfl] at hfs
              have HFS := Aside0.mk hfs
              have HKL : Aside0 (((r1.L.take i).filter fun x => decide (x.1 ≠ f)).length ≤ r1.L.length) := ⟨by have := List.length_filter_le (fun x : Item => decide (x.1 ≠ f)) (r1.L.take i); rw [List.length_take] at this; omega⟩
              clear t1 t3 hfs
              generalize ((r1.L.take i).filter fun x => decide (x.1 ≠ f)) = K at *
              have hKL := HKL.out
              have hszB := HB.out.size
              go_wp2_with (at_builtin; refine wpList_append_lies _ rfl _ _ 73 rfl w1.heap.size 77 i0 _ 3 32 Try.underlying73 hi0 hz0 hz1 hz2 rfl (by decide) _ _ _ rfl (HO.out.alloc _) ⟨wr.heap.size, 0, none⟩ 1 1 [.int .i64 x.1, .int .i64 x.2.1, .string x.2.2] rfl rfl ?hn ?h1 (by decide) ?h63 ?hb ?hbase (wr.heap.size + 1) (by simp) ?_)
              case h1 =>
                intro u hu
                simp only [List.mem_cons, List.not_mem_nil, or_false] at hu
                rcases hu with rfl | rfl | rfl <;> rfl
              case hn => exact World.news_of_block (heap_alloc_new wr _)
              case h63 => have : maxLen = 9223372036854775807 := rfl; omega
              case hb => omega
              case hbase => simp; omega
              intro g2 cap2 w2 hown2 hgrow2 hat2 hlt2
              have HB2 : Aside0 (Below w1.heap.size w1 w2) := ⟨(HB.out.alloc hszB _).grown hgrow2 (by simp; omega) (fun k hk => (HO.out.lt k hk).1)⟩
              have HO2 : Aside0 (w2.ownsRow w1.heap.size 77 3 (.slice (some ⟨g2, 0, none⟩) (K.length + 1) cap2) (K ++ [x]).length (cellsOf (K ++ [x]))) := ⟨by rw [cellsOf_append, List.length_append]; exact hown2⟩
              clear hown2 hgrow2 hat2 hlt2
              go_wp2
              go_roundw
              case rel => exact ⟨i + 1, by omega, by go_num, ⟨by rw [HFS.out]; exact HO2.out⟩, HB2⟩
              case measure => simp [intOf]; omega
          · obtain rfl : i = r1.L.length := by omega
            rw [List.take_length] at HO
            have hrm := removed HH1.out HO.out (by have := List.length_filter_le (fun x : Item => decide (x.1 ≠ f)) r1.L; omega) HB.out H2.out
            have HRM := Aside0.mk hrm
            have ef : wr.frozen? ⟨b, 0, none⟩ = false := by have := h1r.hb; simp [World.frozen?, this]
            clear hrm hvA h1r
            have e := HP3.out
            generalize (r1.L.filter fun x => decide (x.1 ≠ f)) = K at *
            subst e
            obtain ⟨A5, c5, rfl⟩ : ∃ A5 c5, u5 = .slice A5 K.length c5 := by
              rcases HO.out.2 with ⟨e, e0⟩ | ⟨g, cap, cur, e, _⟩
              · exact ⟨none, 0, by rw [e, e0]⟩
              · exact ⟨_, _, e⟩
            clear HP3
            go_wp2
            go_ret
            refine ⟨rfl, fun j => own j ∨ w.heap.size ≤ j, ⟨_, HRM.out.1.mono (show n + 1 ≤ n + 2 by omega), .inl H2.out, fun k hk => .inr ?_⟩, fun j hj => hj, HQ.out.2.trans HRM.out.2.1 (fun j hj => .inl hj)⟩
            have := HRM.out.2.2 k hk
            have := HQ.out.2.size
            omega
end Go.Proofs.Ytdjcaogffppdhaa.Ref
