/- The reference's media: Write and Read. -/
import Derived.Test.YtdjcaogffppdhaaRef
set_option linter.unusedVariables false
set_option linter.unusedSimpArgs false
namespace Go.Proofs.Ytdjcaogffppdhaa.Ref
open Go.RowKit Go.Proofs.Ytdjcaogffppdhaa.SumPure Go.Proofs.YtdjcaogffppdhaaW.PrintWords Go.Proofs.YtdjcaogffppdhaaW.PrintLast Go.Proofs.YtdjcaogffppdhaaW.PrintMore
def put (f a : Int) (s : ByteArray) : List Item → List Item
  | [] => [(f, a, s)]
  | x :: l => if x.1 = f ∧ x.2.1 = a then (x.1, x.2.1, s) :: l else x :: put f a s l
def seekR (f a : Int) : List Item → Option ByteArray
  | [] => none
  | x :: l => if x.1 = f ∧ x.2.1 = a then some x.2.2 else seekR f a l
theorem put_len (f a : Int) (s : ByteArray) (l : List Item) : (put f a s l).length ≤ l.length + 1 := by
  induction l with
  | nil => simp [put]
  | cons x l ih => unfold put; split <;> simp <;> omega
def R.write (r : R) (f a : Int) (s : ByteArray) : R × Int :=
  if r.off = true then (r, 40) else if right f a = false ∨ s.size ≠ 64 then (r, 42) else
    if r.act.2 = true then ({ r.act.1 with L := put f a s r.act.1.L }, 0) else (r.act.1, 40)
def R.read (r : R) (f a : Int) : ByteArray × Int :=
  if r.off = true then (⟨#[]⟩, 40) else if right f a = false then (⟨#[]⟩, 42) else match seekR f a r.L with
    | some s => (s, 0)
    | none => (⟨#[]⟩, 41)
/-- The items' cells, as a walk asks for them. -/
theorem Rep.at_ {w : World} {b : Nat} {v : Value} {r : R} {n : Nat} (h : Rep w b v r n) {i : Nat} (hi : i < r.L.length) : ∃ g c x, v = .slice (some ⟨g, 0, none⟩) r.L.length c ∧ r.L[i]? = some x ∧ g ≠ b ∧ r.L.length ≤ c ∧ c ≤ 9223372036854775807 ∧
    w.cell? ⟨g, i * 3, none⟩ = some (.int .i64 x.1) ∧ w.cell? ⟨g, i * 3 + 1, none⟩ = some (.int .i64 x.2.1) ∧ w.cell? ⟨g, i * 3 + 2, none⟩ = some (.string x.2.2) ∧ ∀ o, w.frozen? ⟨g, o, none⟩ = false := by
  have ha := h.apart
  have hr := h.row
  obtain ⟨g, c, hv, _, _⟩ := hr.form (by omega)
  subst hv
  have hx : r.L[i]? = some (r.L[i]'hi) := List.getElem?_eq_getElem hi
  obtain ⟨x0, x1, x2⟩ := cellsOf_at r.L i _ hx
  have hc : r.L.length ≤ c ∧ c ≤ 9223372036854775807 := by
    rcases hr.2 with ⟨e, _⟩ | ⟨g', cap, cur, e, _, _, h1, h2, _⟩
    · cases e
    · cases e
      exact ⟨h1, h2⟩
  refine ⟨g, c, _, rfl, hx, fun e => ha (by rw [e]; rfl), hc.1, hc.2, ?_, ?_, ?_, fun o => hr.frozenAt o⟩
  · rw [hr.cellAt (i * 3) (by omega)]; exact x0
  · rw [hr.cellAt (i * 3 + 1) (by omega)]; exact x1
  · rw [hr.cellAt (i * 3 + 2) (by omega)]; exact x2
theorem Rep.shape {w : World} {b : Nat} {v : Value} {r : R} {n : Nat} (h : Rep w b v r n) : ∃ A c, v = .slice A r.L.length c := by
  rcases h.row.2 with ⟨e, e'⟩ | ⟨g, cap, cur, e, _⟩
  · exact ⟨none, 0, by rw [e, e']⟩
  · exact ⟨_, _, e⟩
theorem Rep.stored {w : World} {b : Nat} {v : Value} {r : R} {n : Nat} (h : Rep w b v r n) {i g c : Nat} {x : Item} (hv : v = .slice (some ⟨g, 0, none⟩) r.L.length c) (hx : r.L[i]? = some x) (s : ByteArray) :
    Rep (w.setCell ⟨g, i * 3 + 2, none⟩ (.string s)) b v { r with L := r.L.set i (x.1, x.2.1, s) } n := by
  have hne : b ≠ g := fun e => h.apart (by rw [hv, e]; rfl)
  subst hv
  refine ⟨(Med.heap_set_ne hne _ _).trans h.hb, ?_, h.l0, h.l1, h.w0, h.w1, by have := h.len; simpa using this⟩
  have hs := h.row.stored (i * 3 + 2) (.string s)
  rw [cellsOf_set r.L i x s hx] at hs
  simpa using hs.1
theorem put_found (f a : Int) (s : ByteArray) {l : List Item} {i : Nat} {x : Item} (hx : l[i]? = some x) (h : put f a s l = l.take i ++ put f a s (l.drop i)) (he : x.1 = f ∧ x.2.1 = a) : put f a s l = l.set i (x.1, x.2.1, s) := by
  have hi : i < l.length := (List.getElem?_eq_some_iff.1 hx).1
  have hx' : l[i] = x := (List.getElem?_eq_some_iff.1 hx).2
  rw [h, List.drop_eq_getElem_cons hi, hx', put, if_pos he, List.set_eq_take_append_cons_drop, if_pos hi]
theorem put_skip (f a : Int) (s : ByteArray) {l : List Item} {i : Nat} {x : Item} (hx : l[i]? = some x) (h : put f a s l = l.take i ++ put f a s (l.drop i)) (he : ¬(x.1 = f ∧ x.2.1 = a)) : put f a s l = l.take (i + 1) ++ put f a s (l.drop (i + 1)) := by
  have hi : i < l.length := (List.getElem?_eq_some_iff.1 hx).1
  have hx' : l[i] = x := (List.getElem?_eq_some_iff.1 hx).2
  rw [h, List.drop_eq_getElem_cons hi, hx', put, if_neg he, List.take_succ_eq_append_getElem hi, hx']
  simp
theorem seek_found (f a : Int) {l : List Item} {i : Nat} {x : Item} (hx : l[i]? = some x) (h : seekR f a l = seekR f a (l.drop i)) (he : x.1 = f ∧ x.2.1 = a) : seekR f a l = some x.2.2 := by
  have hi : i < l.length := (List.getElem?_eq_some_iff.1 hx).1
  have hx' : l[i] = x := (List.getElem?_eq_some_iff.1 hx).2
  rw [h, List.drop_eq_getElem_cons hi, hx', seekR, if_pos he]
theorem seek_skip (f a : Int) {l : List Item} {i : Nat} {x : Item} (hx : l[i]? = some x) (h : seekR f a l = seekR f a (l.drop i)) (he : ¬(x.1 = f ∧ x.2.1 = a)) : seekR f a l = seekR f a (l.drop (i + 1)) := by
  have hi : i < l.length := (List.getElem?_eq_some_iff.1 hx).1
  have hx' : l[i] = x := (List.getElem?_eq_some_iff.1 hx).2
  rw [h, List.drop_eq_getElem_cons hi, hx', seekR, if_neg he]
/-- What a test on an item asks. -/
theorem test_cases (x : Item) (f a : Int) : (x.1 = f ∧ x.2.1 = a) ∨ (¬(x.1 = f ∧ x.2.1 = a) ∧ ((x.1 == f) = false ∨ (x.1 == f) = true ∧ (x.2.1 == a) = false)) := by
  by_cases h1 : x.1 = f
  · by_cases h2 : x.2.1 = a
    · exact .inl ⟨h1, h2⟩
    · exact .inr ⟨fun h => h2 h.2, .inr ⟨by simp [h1], by simp [h2]⟩⟩
  · exact .inr ⟨fun h => h1 h.1, .inl (by simp [h1])⟩
set_option maxHeartbeats 16000000 in
set_option maxRecDepth 100000 in
theorem read_calls {w : World} {own : Nat → Prop} {b : Nat} {r : R} {n : Nat} (h : IsRef w own b r n) (f a : Int) (hn : n < 1000000000) :
    Calls Try.prog 22 #[.pointer (some ⟨b, 0, none⟩), .int .i64 f, .int .i64 a] w fun e w' => e = .returned (.tuple #[.string (r.read f a).1, .int .i64 (r.read f a).2]) ∧ w' = w := by
  obtain ⟨v, h1, _, _⟩ := h
  have hu := Try.underlying75
  obtain ⟨A, c, rfl⟩ := h1.shape
  have c0 : w.cell? ⟨b, 0, none⟩ = some (.slice A r.L.length c) := by have := h1.hb; simp [World.cell?, this]
  have c3 : w.cell? ⟨b, 3, none⟩ = some (.bool r.off) := by have := h1.hb; simp [World.cell?, this]
  have hlen := h1.len
  have H1 := Aside0.mk h1
  obtain ⟨P, hP⟩ : ∃ P, P = r.read f a := ⟨_, rfl⟩
  rw [← hP]
  unfold R.read at hP
  have HP := Aside0.mk hP
  clear hP h1
  have hr := right_calls f a
  cases ho : r.off with
  | true =>
    rw [ho] at c3 HP
    have e : P = (⟨#[]⟩, 40) := by rw [HP.out, if_pos rfl]
    subst e
    clear ho
    go_enter Try.func22, Try.ntmps22
    go_wp2
    go_ret2
    exact ⟨rfl, rfl⟩
  | false =>
    rw [ho] at c3 HP
    clear ho
    cases hg : right f a with
    | false =>
      rw [hg] at hr HP
      have e : P = (⟨#[]⟩, 42) := by rw [HP.out]; simp
      subst e
      clear hg
      go_enter Try.func22, Try.ntmps22
      go_wp2_with (go_at_call 41; refine (hr _).mono ?_; rintro e w' ⟨rfl, rfl⟩)
      go_ret2
      exact ⟨rfl, rfl⟩
    | true =>
      rw [hg] at hr HP
      have HP2 : Aside0 (P = match seekR f a r.L with | some s => (s, 0) | none => (⟨#[]⟩, 41)) := ⟨by rw [HP.out]; simp⟩
      clear hg HP
      go_enter Try.func22, Try.ntmps22
      go_wp2_with (go_at_call 41; refine (hr _).mono ?_; rintro e w' ⟨rfl, rfl⟩)
      clear hr
      go_loop [8] (fun v8 => ∃ i : Nat, i ≤ r.L.length ∧ v8 = .int .i64 i ∧ Aside0 (seekR f a r.L = seekR f a (r.L.drop i))) (fun v8 => r.L.length - (intOf v8).toNat)
      case atStart => exact ⟨0, by omega, rfl, ⟨rfl⟩⟩
      case round =>
        obtain ⟨i, hi, rfl, HK⟩ := hrel
        by_cases hlt : i < r.L.length
        · obtain ⟨g, c', x, hv, hx, hne, hcl, hcm, d0, d1, d2, df⟩ := H1.out.at_ hlt
          cases hv
          have HX := Aside0.mk hx
          clear hx df
          rcases test_cases x f a with ⟨e1, e2⟩ | ⟨hno, ht⟩
          · have e : P = (x.2.2, 0) := by rw [HP2.out, seek_found f a HX.out HK.out ⟨e1, e2⟩]
            subst e
            have t1 : (x.1 == f) = true := by simp [e1]
            have t2 : (x.2.1 == a) = true := by simp [e2]
            clear e1 e2
            go_wp2
            go_ret2
            exact ⟨rfl, rfl⟩
          · have HN := Aside0.mk hno
            clear hno
            rcases ht with t1 | ⟨t1, t2⟩
            all_goals
              go_wp2
              go_round
              case rel => exact ⟨i + 1, by omega, by go_num, ⟨seek_skip f a HX.out HK.out HN.out⟩⟩
              case measure => simp [intOf]; omega
        · have e : P = (⟨#[]⟩, 41) := by rw [HP2.out, HK.out, List.drop_eq_nil_of_le (by omega)]; rfl
          subst e
          go_wp2
          go_ret2
          exact ⟨rfl, rfl⟩
theorem sectorInfo : (Try.prog.info? 77).map (fun i => (i.zero, i.size, i.bytes)) = some (some (.agg #[.int .i64 0, .int .i64 0, .string ⟨#[]⟩]), 3, 32) := by kernel_rfl
theorem infoParts3 {z : Option Value} {s b : Nat} {T : TypeId} (h : (Try.prog.info? T).map (fun i => (i.zero, i.size, i.bytes)) = some (z, s, b)) : ∃ i, Try.prog.info? T = some i ∧ i.zero = z ∧ i.size = s ∧ i.bytes = b := by
  cases hi : Try.prog.info? T with
  | none => rw [hi] at h; cases h
  | some i =>
    rw [hi] at h
    simp only [Option.map_some, Option.some.injEq, Prod.mk.injEq] at h
    exact ⟨i, rfl, h.1, h.2.1, h.2.2⟩
/-- What a call has made of a reference's media. -/
def Left (own : Nat → Prop) (b : Nat) (w : World) (r : R) (n : Nat) (w' : World) : Prop := ∃ own', IsRef w' own' b r n ∧ (∀ j, own' j → own j ∨ w.heap.size ≤ j) ∧ Med.Frame own w w'
theorem grown_b {w1 w2 : World} {o : Obj} {b : Nat} {v : Value} {r1 : R} {n : Nat} (h : Rep w1 b v r1 n) (hg : (w1.alloc o).grownBy w2 v.ownBlock) : w2.heap[b]? = some (.cells #[v, .bool r1.armed, .int .i64 r1.left, .bool r1.off, .int .i64 r1.writes] 75 (0, 0)) := by
  rw [hg.block b (by have := h.lt.1; simp; omega) (fun e => h.apart e.symm), Below.heap_alloc w1 o b h.lt.1]
  exact h.hb
theorem appended {own : Nat → Prop} {w1 w2 : World} {o : Obj} {b : Nat} {v : Value} {r1 : R} {n : Nat} {f a : Int} {s : ByteArray} {g cap : Nat} (h : Rep w1 b v r1 n)
    (ho : w2.ownsRow 0 77 3 (.slice (some ⟨g, 0, none⟩) (r1.L.length + 1) cap) (r1.L.length + 1) (cellsOf r1.L ++ [.int .i64 f, .int .i64 a, .string s])) (hg : (w1.alloc o).grownBy w2 v.ownBlock) (hw : own b ∧ ∀ g, v.ownBlock = some g → own g) :
    Rep (w2.setCell ⟨b, 0, none⟩ (.slice (some ⟨g, 0, none⟩) (r1.L.length + 1) cap)) b (.slice (some ⟨g, 0, none⟩) (r1.L.length + 1) cap) { r1 with L := r1.L ++ [(f, a, s)] } (n + 1) ∧ Med.Frame own w1 (w2.setCell ⟨b, 0, none⟩ (.slice (some ⟨g, 0, none⟩) (r1.L.length + 1) cap)) := by
  have hb2 := grown_b h hg
  have hne : g ≠ b := by
    intro e
    rcases ho.2 with ⟨e', _⟩ | ⟨g', cap', cur, e', _, hgh, _⟩
    · cases e'
    · cases e'
      rw [e, hb2] at hgh
      cases hgh
  refine ⟨⟨?_, ?_, by have := h.l0; show -((n + 1 : Nat) : Int) ≤ r1.left; omega, h.l1, h.w0, by have := h.w1; show r1.writes ≤ ((n + 1 : Nat) : Int); omega, by have := h.len; show (r1.L ++ [(f, a, s)]).length ≤ n + 1; simp; omega⟩, ?_⟩
  · rw [Med.heap_set hb2 0 _]; rfl
  · show World.ownsRow _ _ _ _ _ (r1.L ++ [(f, a, s)]).length (cellsOf (r1.L ++ [(f, a, s)]))
    rw [cellsOf_append, show (r1.L ++ [(f, a, s)]).length = r1.L.length + 1 from by simp]
    refine ⟨ho.1, ?_⟩
    rcases ho.2 with e | ⟨g', cap', cur, e', h1, hgh, rest⟩
    · exact .inl e
    · cases e'
      exact .inr ⟨g, cap, cur, rfl, h1, (Med.heap_set_ne hne _ _).trans hgh, rest⟩
  · have hs : (w1.alloc o).heap.size = w1.heap.size + 1 := by simp
    refine ⟨hg.os, hg.tape, hg.output, by have := hg.size; simp at this ⊢; omega, fun j hj hn => ?_⟩
    rw [Med.heap_set_ne (fun e => hn (by rw [e]; exact hw.1)), hg.block j (by omega) (fun e => hn (hw.2 j e.symm)), Below.heap_alloc w1 o j hj]
set_option maxHeartbeats 16000000 in
set_option maxRecDepth 100000 in
theorem write_calls {w : World} {own : Nat → Prop} {b : Nat} {r : R} {n : Nat} (h : IsRef w own b r n) (f a : Int) (s : ByteArray) (hs : s.size ≤ 9223372036854775807) (hn : n < 100000000) :
    Calls Try.prog 18 #[.pointer (some ⟨b, 0, none⟩), .int .i64 f, .int .i64 a, .string s] w fun e w' => e = .returned (.int .i64 (r.write f a s).2) ∧ Left own b w (r.write f a s).1 (n + 2) w' := by
  have hu := Try.underlying75
  have c3 : w.cell? ⟨b, 3, none⟩ = some (.bool r.off) := by obtain ⟨v, h1, _⟩ := h; have := h1.hb; simp [World.cell?, this]
  have H0 := Aside0.mk h
  obtain ⟨P, hP⟩ : ∃ P, P = r.write f a s := ⟨_, rfl⟩
  rw [← hP]
  unfold R.write at hP
  have HP := Aside0.mk hP
  clear hP h
  have hr := right_calls f a
  cases ho : r.off with
  | true =>
    rw [ho] at c3 HP
    have e : P = (r, 40) := by rw [HP.out, if_pos rfl]
    subst e
    clear ho
    go_enter Try.func18, Try.ntmps18
    go_wp2
    go_ret
    exact ⟨rfl, own, H0.out.mono (by omega), fun j hj => .inl hj, Med.Frame.refl _ _⟩
  | false =>
    rw [ho] at c3 HP
    clear ho
    cases hg : right f a with
    | false =>
      rw [hg] at hr HP
      have e : P = (r, 42) := by rw [HP.out]; simp
      subst e
      clear hg
      go_enter Try.func18, Try.ntmps18
      go_wp2_with (go_at_call 41; refine (hr _).mono ?_; rintro e w' ⟨rfl, rfl⟩)
      go_ret
      exact ⟨rfl, own, H0.out.mono (by omega), fun j hj => .inl hj, Med.Frame.refl _ _⟩
    | true =>
      rw [hg] at hr HP
      clear hg
      by_cases h64 : s.size = 64
      · have h64b : ((s.size : Int) != 64) = false := by rw [h64]; rfl
        have HP2 : Aside0 (P = if r.act.2 = true then ({ r.act.1 with L := put f a s r.act.1.L }, 0) else (r.act.1, 40)) := ⟨by rw [HP.out, if_neg (by simp), if_neg (by simp [h64])]⟩
        clear h64 HP
        have hac := act_calls H0.out (by omega)
        generalize r.act = q at *
        obtain ⟨r1, q2⟩ := q
        cases q2 with
        | false =>
          have e : P = (r1, 40) := by rw [HP2.out]; simp
          subst e
          go_enter Try.func18, Try.ntmps18
          go_wp2_with (first | (go_at_call 41; refine (hr _).mono ?_; rintro e w' ⟨rfl, rfl⟩) | (go_at_call 42; refine hac.mono ?_; rintro e w1 ⟨rfl, hq1, hq2⟩; have HQ := Aside0.mk (And.intro hq1 hq2); clear hq1 hq2))
          go_ret
          exact ⟨rfl, own, HQ.out.1.mono (by omega), fun j hj => .inl hj, HQ.out.2⟩
        | true =>
          have HP3 : Aside0 (P = ({ r1 with L := put f a s r1.L }, 0)) := ⟨by rw [HP2.out]; simp⟩
          clear HP2
          go_enter Try.func18, Try.ntmps18
          go_upto_region 7 with (first | (go_at_call 41; refine (hr _).mono ?_; rintro e w' ⟨rfl, rfl⟩) | (go_at_call 42; refine hac.mono ?_; rintro e w1 ⟨rfl, hq1, hq2⟩; have HQ := Aside0.mk (And.intro hq1 hq2); clear hq1 hq2))
          clear hac hr c3
          obtain ⟨v, h1, h2, h3⟩ := HQ.out.1
          obtain ⟨A, c, rfl⟩ := h1.shape
          have c0 : w1.cell? ⟨b, 0, none⟩ = some (.slice A r1.L.length c) := by have := h1.hb; simp [World.cell?, this]
          have hlen := h1.len
          have H1 := Aside0.mk h1
          have H3 : Aside0 (own b ∧ ∀ g, (Value.slice A r1.L.length c).ownBlock = some g → own g) := ⟨h2, h3⟩
          clear h1 h2 h3
          go_wp2
          go_loop [9] (fun v9 => ∃ i : Nat, i ≤ r1.L.length ∧ v9 = .int .i64 i ∧ Aside0 (put f a s r1.L = r1.L.take i ++ put f a s (r1.L.drop i))) (fun v9 => r1.L.length - (intOf v9).toNat)
          case atStart => exact ⟨0, by omega, rfl, ⟨by simp⟩⟩
          case round =>
            obtain ⟨i, hi, rfl, HK⟩ := hrel
            by_cases hlt : i < r1.L.length
            · obtain ⟨g, c', x, hv, hx, hne, hcl, hcm, d0, d1, d2, df⟩ := H1.out.at_ hlt
              cases hv
              have HX := Aside0.mk hx
              clear hx
              rcases test_cases x f a with ⟨e1, e2⟩ | ⟨hno, ht⟩
              · have e : P = ({ r1 with L := r1.L.set i (x.1, x.2.1, s) }, 0) := by rw [HP3.out, put_found f a s HX.out HK.out ⟨e1, e2⟩]
                subst e
                have t1 : (x.1 == f) = true := by simp [e1]
                have t2 : (x.2.1 == a) = true := by simp [e2]
                clear e1 e2
                go_wp2
                go_ret
                refine ⟨rfl, own, ⟨_, (H1.out.stored rfl HX.out s).mono (by omega), H3.out⟩, fun j hj => .inl hj, HQ.out.2.trans (frame_one (own := own) (H3.out.2 g rfl) _ _) (fun j hj => .inl hj)⟩
              · have HN := Aside0.mk hno
                clear hno
                rcases ht with t1 | ⟨t1, t2⟩
                all_goals
                  go_wp2
                  go_round
                  case rel => exact ⟨i + 1, by omega, by go_num, ⟨put_skip f a s HX.out HK.out HN.out⟩⟩
                  case measure => simp [intOf]; omega
            · have e : P = ({ r1 with L := r1.L ++ [(f, a, s)] }, 0) := by rw [HP3.out, HK.out, List.drop_eq_nil_of_le (by omega), List.take_of_length_le (by omega)]; rfl
              subst e
              obtain ⟨i0, hi0, hz0, hz1, hz2⟩ := infoParts3 sectorInfo
              have cb0 : ∀ o, w1.frozen? ⟨b, o, none⟩ = false := fun o => by have := H1.out.hb; simp [World.frozen?, this]
              have hsz1 := HQ.out.2.size
              go_wp2_with (at_builtin; refine wpList_append_lies _ rfl _ _ 73 rfl 0 77 i0 _ 3 32 Try.underlying73 hi0 hz0 hz1 hz2 rfl (by decide) _ _ _ rfl (H1.out.row.alloc _) ⟨w1.heap.size, 0, none⟩ 1 1 [.int .i64 f, .int .i64 a, .string s] rfl rfl ?hn ?h1 (by decide) ?h63 ?hb (Nat.zero_le _) (w1.heap.size + 1) (by simp) ?_)
              case h1 => exact ⟨rfl, rfl, rfl⟩
              case h63 => have : maxLen = 9223372036854775807 := rfl; omega
              case hb => omega
              intro g cap w2 hown2 hgrow2 hat2 hlt2
              have hfin := appended H1.out hown2 hgrow2 H3.out
              have HF := Aside0.mk hfin
              have hb2 : w2.heap[b]? = some (.cells #[.slice A r1.L.length c, .bool r1.armed, .int .i64 r1.left, .bool r1.off, .int .i64 r1.writes] 75 (0, 0)) := grown_b H1.out hgrow2
              have e0 : w2.cell? ⟨b, 0, none⟩ = some (.slice A r1.L.length c) := by simp [World.cell?, hb2]
              have ef : w2.frozen? ⟨b, 0, none⟩ = false := by simp [World.frozen?, hb2]
              have HAT : Aside0 ((Value.slice A r1.L.length c).ownBlock = some g ∨ g = w1.heap.size + 1) := ⟨hat2⟩
              clear hown2 hgrow2 hat2 hlt2 hfin hb2 cb0
              go_wp2
              go_ret
              refine ⟨rfl, fun j => own j ∨ w.heap.size ≤ j, ⟨_, HF.out.1, .inl H3.out.1, fun k hk => ?_⟩, fun j hj => hj, HQ.out.2.trans HF.out.2 (fun j hj => .inl hj)⟩
              have hk' : g = k := by simpa [Value.ownBlock] using hk
              rcases HAT.out with h4 | h4
              · exact .inl (H3.out.2 k (by rw [← hk']; exact h4))
              · exact .inr (by omega)
      · have h64b : ((s.size : Int) != 64) = true := by simp; omega
        have e : P = (r, 42) := by rw [HP.out]; simp [h64]
        subst e
        clear h64
        go_enter Try.func18, Try.ntmps18
        go_wp2_with (go_at_call 41; refine (hr _).mono ?_; rintro e w' ⟨rfl, rfl⟩)
        go_ret
        exact ⟨rfl, own, H0.out.mono (by omega), fun j hj => .inl hj, Med.Frame.refl _ _⟩
end Go.Proofs.Ytdjcaogffppdhaa.Ref
