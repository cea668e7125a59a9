/- The codec's cmd and house, walked in both modes. Printed by chouse.py. -/
import Derived.Test.YtgdoodeibcfcjaaGreatCListA
import Derived.Test.YtgdoodeibcfcjaaGreatCListB
import Derived.Test.YtgdoodeibcfcjaaGreatCListC
import Derived.Test.YtgdoodeibcfcjaaGreatCListD
set_option linter.unusedVariables false
set_option linter.unusedSimpArgs false
namespace Go.Proofs.YtgdoodeibcfcjaaGreat.Wire
open Go.RowKit Go.Proofs.YtgdoodeibcfcjaaGreat.NumsPure Go.Proofs.YtgdoodeibcfcjaaGreat.CPure Go.Proofs.YtgdoodeibcfcjaaGreat.Own
open Go.Proofs.YtgdoodeibcfcjaaGreat.Put (digits digits_lt digits_ge)
open Go.Proofs.YtgdoodeibcfcjaaGreat.BldS (Keeps)
/-- A list of the thing that is written. -/
structure RowW (B bb : Nat) (w : World) (q : Option Value) (k : Nat) (ks : List K) (rows : List (List Value)) : Prop where
  shape : ∃ A c, q = some (.slice A rows.length c) ∧ RowsAt B bb w A k rows ∧ rows.length ≤ c
  fits : ∀ x ∈ rows, Fits ks x
  few : rows.length ≤ 100000000
theorem RowW.next {B bb k : Nat} {w w1 : World} {q : Option Value} {ks : List K} {rows : List (List Value)} (h : RowW B bb w q k ks rows) (p : Wk B bb w w1) : RowW B bb w1 q k ks rows := by
  obtain ⟨A, c, e, hr, hc⟩ := h.shape
  exact ⟨⟨A, c, e, hr.next p, hc⟩, h.fits, h.few⟩
theorem own_mono {w : World} {B B' n k : Nat} {e : TypeId} {v : Value} {xs : List Value} (h : w.ownsRow B e k v n xs) (hb : B' ≤ B) : w.ownsRow B' e k v n xs := by
  refine ⟨h.1, ?_⟩
  rcases h.2 with ho | ⟨g, cap, cur, hv, hg, rest⟩
  · exact .inl ho
  · exact .inr ⟨g, cap, cur, hv, Nat.le_trans hb hg, rest⟩
/-- A row that the call has made, behind a step that turns the wire and the thing alone. -/
theorem own_step {w0 w w' : World} {n k wb hb : Nat} {e HT : TypeId} {v : Value} {xs hcs : List Value} {s : Rd} (h : w.ownsRow w0.heap.size e k v n xs) (hw : Rw wb s w) (hc : Cs hb HT hcs w) (h1 : e ≠ 110) (h2 : e ≠ HT) (f : Fr (fun i => i = wb ∨ i = hb) w w') : w'.ownsRow w0.heap.size e k v n xs :=
  own_same h fun g hg => f.block g (h.lt g hg).2 (by
    rintro (q | q)
    · exact own_ne h hw h1 (by rw [hg, q])
    · exact own_ne h hc h2 (by rw [hg, q]))
theorem rdList_len (ks : List K) (s : Rd) : (rdList ks s).1.D.length ≤ s.D.length := by
  have hr : ∀ (n : Nat) (s : Rd), (rdRows ks n s).1.D.length ≤ s.D.length := by
    intro n
    induction n with
    | zero => intro s; exact Nat.le_refl _
    | succ n ih =>
      intro s
      cases hb : s.bad with
      | true => rw [rows_done _ _ _ hb]; exact Nat.le_refl _
      | false =>
        rw [rows_more _ _ _ hb]
        refine Nat.le_trans (ih _) ?_
        rw [← rd_all _ _ _ (by simp)]
        exact (rdAt_len _ _).1
  refine Nat.le_trans (hr _ _) ?_
  unfold counted
  split
  · exact take_len s
  · exact take_len s
def enc_cmd (R1 R2 : List (List Value)) (z : Int) : List UInt8 := digits (foldN z) ++ (encRows R1 ++ (encRows R2))
set_option maxHeartbeats 16000000 in
set_option maxRecDepth 100000 in
theorem cmd_w {B wb bb hb : Nat} {bs : List UInt8} {hcs : List Value} {R1 R2 : List (List Value)} {z : Int} {w : World} (h : Wr B wb bb bs w) (hx : Cs hb 41 hcs w) (hz : hcs[0]? = some (.int .i64 z))
    (r1 : RowW B bb w hcs[1]? 1 ks_str R1)
    (r2 : RowW B bb w hcs[2]? 1 ks_int R2)
    (hl : bs.length + (enc_cmd R1 R2 z).length ≤ 140737488355328) :
    Calls Tryz.prog 38 #[.pointer (some ⟨wb, 0, none⟩), .pointer (some ⟨hb, 0, none⟩)] w (Writ B wb bb (bs ++ enc_cmd R1 R2 z) w) := by
  have hhb : hb ≠ bb := h.bbT hx (by decide)
  have HL : Aside0 (bs.length + (digits (foldN z)).length + (encRows R1).length + (encRows R2).length ≤ 140737488355328) := ⟨by unfold enc_cmd at hl; simp only [List.length_append] at hl; omega⟩
  have H0 : Aside0 (Wr B wb bb bs w ∧ Wk B bb w w) := ⟨h, Wk.refl _ _ _⟩
  have HX := Aside0.mk hx
  have HZ := Aside0.mk hz
  have HR1 := Aside0.mk r1
  have HR2 := Aside0.mk r2
  clear h hx hz hl r1 r2
  go_enter Tryz.func38, Tryz.ntmps38
  go_wp2_with (fail)
  have L0 : Aside0 ((bs).length + (digits (foldN z)).length ≤ 140737488355328) := ⟨by have := HL.out; (try simp only [List.length_append]); omega⟩
  have E0 : Aside0 (encAt (at_ .n [0]) hcs = digits (foldN z) ∧ OkAt (at_ .n [0]) hcs) := ⟨⟨by simp [at_, encAt, List.getD_eq_getElem?_getD, HZ.out, encV], fun y hy => by rw [show y = (.n, 0) from by simpa [at_] using hy]; exact ⟨_, HZ.out, z, rfl⟩⟩⟩
  refine (nums_wc (alloc_below _ _) [0] (cs_alloc _ _ _ _ rfl) H0.out.1 (H0.out.2.cs HX.out (by decide) hhb) (by decide) (by decide) rfl E0.out.2 (by rw [E0.out.1]; exact L0.out) (by decide)).mono ?_
  rintro e x1 ⟨rfl, p1, p2⟩
  have H1 : Aside0 (Wr B wb bb (bs ++ digits (foldN z)) x1 ∧ Wk B bb w x1) := ⟨by rw [← E0.out.1]; exact p1, H0.out.2.trans p2⟩
  clear p1 p2
  go_wp2_with (fail)
  have L1 : Aside0 (((bs ++ digits (foldN z))).length + (encRows R1).length ≤ 140737488355328) := ⟨by have := HL.out; (try simp only [List.length_append]); omega⟩
  obtain ⟨A1, c1, q1, m1, n1⟩ := (HR1.out.next H1.out.2).shape
  have C1 := Aside0.mk (And.intro q1 (And.intro m1 n1))
  clear q1 m1 n1
  refine (list_str_w H1.out.1 (by rw [(H1.out.2.cs HX.out (by decide) hhb).cell]; exact C1.out.1) (Stay.cs (H1.out.2.cs HX.out (by decide) hhb) (by decide) hhb) C1.out.2.1 HR1.out.fits C1.out.2.2 HR1.out.few L1.out).mono ?_
  rintro e x2 ⟨rfl, p1, p2⟩
  have H2 : Aside0 (Wr B wb bb ((bs ++ digits (foldN z)) ++ encRows R1) x2 ∧ Wk B bb w x2) := ⟨p1, H1.out.2.trans p2⟩
  clear p1 p2
  go_wp2_with (fail)
  have L2 : Aside0 ((((bs ++ digits (foldN z)) ++ encRows R1)).length + (encRows R2).length ≤ 140737488355328) := ⟨by have := HL.out; (try simp only [List.length_append]); omega⟩
  obtain ⟨A2, c2, q2, m2, n2⟩ := (HR2.out.next H2.out.2).shape
  have C2 := Aside0.mk (And.intro q2 (And.intro m2 n2))
  clear q2 m2 n2
  refine (list_int_w H2.out.1 (by rw [(H2.out.2.cs HX.out (by decide) hhb).cell]; exact C2.out.1) (Stay.cs (H2.out.2.cs HX.out (by decide) hhb) (by decide) hhb) C2.out.2.1 HR2.out.fits C2.out.2.2 HR2.out.few L2.out).mono ?_
  rintro e x3 ⟨rfl, p1, p2⟩
  have H3 : Aside0 (Wr B wb bb (((bs ++ digits (foldN z)) ++ encRows R1) ++ encRows R2) x3 ∧ Wk B bb w x3) := ⟨p1, H2.out.2.trans p2⟩
  clear p1 p2
  go_wp2
  go_end0
  refine ⟨rfl, ?_, H3.out.2⟩
  have := H3.out.1
  unfold enc_cmd
  simpa only [List.append_assoc] using this
def st_cmd_0 (s : Rd) : Rd := s
def st_cmd_1 (s : Rd) : Rd := (takeN (st_cmd_0 s)).2
def st_cmd_2 (s : Rd) : Rd := (rdList ks_str (st_cmd_1 s)).1
def st_cmd_3 (s : Rd) : Rd := (rdList ks_int (st_cmd_2 s)).1
theorem st_cmd_1_eq (s : Rd) : st_cmd_1 s = (takeN (st_cmd_0 s)).2 := rfl
theorem st_cmd_2_eq (s : Rd) : st_cmd_2 s = (rdList ks_str (st_cmd_1 s)).1 := rfl
theorem st_cmd_3_eq (s : Rd) : st_cmd_3 s = (rdList ks_int (st_cmd_2 s)).1 := rfl
/-- The thing that was read: its lists' rows stand, each in a block that the call has made. -/
structure Out_cmd (w0 : World) (hb : Nat) (s : Rd) (hcs : List Value) (w : World) : Prop where
  rw : True
  n0 : hcs[0]? = some (.int .i64 (unfoldN (takeN (st_cmd_0 s)).1))
  r1 : ∃ v, hcs[1]? = some v ∧ w.ownsRow w0.heap.size 9 1 v (rdList ks_str (st_cmd_1 s)).2.length (rdList ks_str (st_cmd_1 s)).2.flatten
  r2 : ∃ v, hcs[2]? = some v ∧ w.ownsRow w0.heap.size 3 1 v (rdList ks_int (st_cmd_2 s)).2.length (rdList ks_int (st_cmd_2 s)).2.flatten
def Read_cmd (wb hb : Nat) (s : Rd) (w : World) (e : Ending) (w' : World) : Prop := e = .returned (.tuple #[]) ∧ ∃ hcs, hcs.length = 3 ∧ Rw wb (st_cmd_3 s) w' ∧ Cs hb 41 hcs w' ∧ Fr (fun i => i = wb ∨ i = hb) w w' ∧ Out_cmd w hb s hcs w'
theorem st_cmd_0_len (s : Rd) : (st_cmd_0 s).D.length ≤ s.D.length := Nat.le_refl _
theorem st_cmd_1_len (s : Rd) : (st_cmd_1 s).D.length ≤ s.D.length := Nat.le_trans (take_len _) (st_cmd_0_len s)
theorem st_cmd_2_len (s : Rd) : (st_cmd_2 s).D.length ≤ s.D.length := Nat.le_trans (rdList_len _ _) (st_cmd_1_len s)
theorem st_cmd_3_len (s : Rd) : (st_cmd_3 s).D.length ≤ s.D.length := Nat.le_trans (rdList_len _ _) (st_cmd_2_len s)
theorem st_cmd_0_eq (s : Rd) : st_cmd_0 s = s := rfl
attribute [local irreducible] st_cmd_0 st_cmd_1 st_cmd_2 st_cmd_3 rdList takeN
set_option maxHeartbeats 16000000 in
set_option maxRecDepth 100000 in
theorem cmd_r {wb hb : Nat} {s : Rd} {w : World} (h : Rw wb s w) (hx : Cs hb 41 [.int .i64 0, .slice none 0 0, .slice none 0 0] w) (hne : hb ≠ wb) (hl : s.D.length ≤ 100000000) :
    Calls Tryz.prog 38 #[.pointer (some ⟨wb, 0, none⟩), .pointer (some ⟨hb, 0, none⟩)] w (Read_cmd wb hb s w) := by
  have H0 : Aside0 (Rw wb (st_cmd_0 s) w ∧ Cs hb 41 [.int .i64 0, .slice none 0 0, .slice none 0 0] w ∧ Fr (fun i => i = wb ∨ i = hb) w w) := ⟨by rw [st_cmd_0_eq]; exact h, hx, Fr.refl _ _⟩
  have HN := Aside0.mk hne
  have HLN : Aside0 (s.D.length ≤ 100000000) := ⟨hl⟩
  clear h hx hne hl
  go_enter Tryz.func38, Tryz.ntmps38
  go_wp2_with (fail)
  have E0 : Aside0 (rdAt (at_ .n [0]) (st_cmd_0 s, [.int .i64 0, .slice none 0 0, .slice none 0 0]) = (st_cmd_1 s, ([.int .i64 0, .slice none 0 0, .slice none 0 0] : List Value).set 0 (.int .i64 (unfoldN (takeN (st_cmd_0 s)).1)))) := ⟨by rw [st_cmd_1_eq]; rfl⟩
  refine (nums_rc (alloc_below _ _) [0] (cs_alloc _ _ _ _ rfl) H0.out.1 H0.out.2.1 HN.out rfl (by simp) (Nat.le_trans (Nat.le_trans (st_cmd_0_len s) HLN.out) (by decide)) (by decide)).mono ?_
  rintro e x1 ⟨rfl, p1, p2, p3⟩
  rw [E0.out] at p1 p2
  have H1 : Aside0 (Rw wb (st_cmd_1 s) x1 ∧ Cs hb 41 [.int .i64 (unfoldN (takeN (st_cmd_0 s)).1), .slice none 0 0, .slice none 0 0] x1 ∧ Fr (fun i => i = wb ∨ i = hb) w x1) := ⟨p1, p2, H0.out.2.2.trans p3 fun i hi => .inl hi⟩
  clear p1 p2 p3
  go_wp2_with (fail)
  refine (list_str_r H1.out.1 H1.out.2.1 rfl HN.out (by decide) (Nat.le_trans (st_cmd_1_len s) HLN.out)).mono ?_
  rintro e x2 ⟨rfl, v1, ⟨p1, p2, p4, p3⟩⟩
  rw [← st_cmd_2_eq] at p1
  have H2 : Aside0 (Rw wb (st_cmd_2 s) x2 ∧ Cs hb 41 [.int .i64 (unfoldN (takeN (st_cmd_0 s)).1), v1, .slice none 0 0] x2 ∧ Fr (fun i => i = wb ∨ i = hb) w x2) := ⟨p1, p2, H1.out.2.2.trans p3 fun i hi => .inl hi⟩
  have O1_2 : Aside0 (x2.ownsRow w.heap.size 9 1 v1 (rdList ks_str (st_cmd_1 s)).2.length (rdList ks_str (st_cmd_1 s)).2.flatten) := ⟨own_mono p4 H1.out.2.2.size⟩
  clear p4
  clear p1 p2 p3
  go_wp2_with (fail)
  refine (list_int_r H2.out.1 H2.out.2.1 rfl HN.out (by decide) (Nat.le_trans (st_cmd_2_len s) HLN.out)).mono ?_
  rintro e x3 ⟨rfl, v2, ⟨p1, p2, p4, p3⟩⟩
  rw [← st_cmd_3_eq] at p1
  have H3 : Aside0 (Rw wb (st_cmd_3 s) x3 ∧ Cs hb 41 [.int .i64 (unfoldN (takeN (st_cmd_0 s)).1), v1, v2] x3 ∧ Fr (fun i => i = wb ∨ i = hb) w x3) := ⟨p1, p2, H2.out.2.2.trans p3 fun i hi => .inl hi⟩
  have O1_3 : Aside0 (x3.ownsRow w.heap.size 9 1 v1 (rdList ks_str (st_cmd_1 s)).2.length (rdList ks_str (st_cmd_1 s)).2.flatten) := ⟨own_step (w0 := w) O1_2.out H2.out.1 H2.out.2.1 (by decide) (by decide) p3⟩
  clear O1_2
  have O2_3 : Aside0 (x3.ownsRow w.heap.size 3 1 v2 (rdList ks_int (st_cmd_2 s)).2.length (rdList ks_int (st_cmd_2 s)).2.flatten) := ⟨own_mono p4 H2.out.2.2.size⟩
  clear p4
  clear p1 p2 p3
  go_wp2
  go_end0
  exact ⟨rfl, _, rfl, H3.out.1, H3.out.2.1, H3.out.2.2, ⟨trivial, rfl, ⟨v1, rfl, O1_3.out⟩, ⟨v2, rfl, O2_3.out⟩⟩⟩
def enc_house (R0 R1 R2 R3 R4 R5 R6 R7 R8 R9 R10 R11 R12 R13 : List (List Value)) (z : Int) : List UInt8 := encRows R0 ++ (encRows R1 ++ (encRows R2 ++ (encRows R3 ++ (encRows R4 ++ (encRows R5 ++ (encRows R6 ++ (encRows R7 ++ (encRows R8 ++ (encRows R9 ++ (encRows R10 ++ (encRows R11 ++ (encRows R12 ++ (encRows R13 ++ (digits (foldN z)))))))))))))))
set_option maxHeartbeats 16000000 in
set_option maxRecDepth 100000 in
theorem house_w {B wb bb hb : Nat} {bs : List UInt8} {hcs : List Value} {R0 R1 R2 R3 R4 R5 R6 R7 R8 R9 R10 R11 R12 R13 : List (List Value)} {z : Int} {w : World} (h : Wr B wb bb bs w) (hx : Cs hb 37 hcs w) (hz : hcs[14]? = some (.int .i64 z))
    (r0 : RowW B bb w hcs[0]? 14 ks_item R0)
    (r1 : RowW B bb w hcs[1]? 3 ks_lot R1)
    (r2 : RowW B bb w hcs[2]? 2 ks_zone R2)
    (r3 : RowW B bb w hcs[3]? 8 ks_bin R3)
    (r4 : RowW B bb w hcs[4]? 6 ks_quant R4)
    (r5 : RowW B bb w hcs[5]? 3 ks_rule R5)
    (r6 : RowW B bb w hcs[6]? 51 ks_notice R6)
    (r7 : RowW B bb w hcs[7]? 50 ks_order R7)
    (r8 : RowW B bb w hcs[8]? 8 ks_claim R8)
    (r9 : RowW B bb w hcs[9]? 11 ks_task R9)
    (r10 : RowW B bb w hcs[10]? 2 ks_parcel R10)
    (r11 : RowW B bb w hcs[11]? 5 ks_sent R11)
    (r12 : RowW B bb w hcs[12]? 5 ks_counted R12)
    (r13 : RowW B bb w hcs[13]? 6 ks_total R13)
    (hl : bs.length + (enc_house R0 R1 R2 R3 R4 R5 R6 R7 R8 R9 R10 R11 R12 R13 z).length ≤ 140737488355328) :
    Calls Tryz.prog 30 #[.pointer (some ⟨wb, 0, none⟩), .pointer (some ⟨hb, 0, none⟩)] w (Writ B wb bb (bs ++ enc_house R0 R1 R2 R3 R4 R5 R6 R7 R8 R9 R10 R11 R12 R13 z) w) := by
  have hhb : hb ≠ bb := h.bbT hx (by decide)
  have HL : Aside0 (bs.length + (encRows R0).length + (encRows R1).length + (encRows R2).length + (encRows R3).length + (encRows R4).length + (encRows R5).length + (encRows R6).length + (encRows R7).length + (encRows R8).length + (encRows R9).length + (encRows R10).length + (encRows R11).length + (encRows R12).length + (encRows R13).length + (digits (foldN z)).length ≤ 140737488355328) := ⟨by unfold enc_house at hl; simp only [List.length_append] at hl; omega⟩
  have H0 : Aside0 (Wr B wb bb bs w ∧ Wk B bb w w) := ⟨h, Wk.refl _ _ _⟩
  have HX := Aside0.mk hx
  have HZ := Aside0.mk hz
  have HR0 := Aside0.mk r0
  have HR1 := Aside0.mk r1
  have HR2 := Aside0.mk r2
  have HR3 := Aside0.mk r3
  have HR4 := Aside0.mk r4
  have HR5 := Aside0.mk r5
  have HR6 := Aside0.mk r6
  have HR7 := Aside0.mk r7
  have HR8 := Aside0.mk r8
  have HR9 := Aside0.mk r9
  have HR10 := Aside0.mk r10
  have HR11 := Aside0.mk r11
  have HR12 := Aside0.mk r12
  have HR13 := Aside0.mk r13
  clear h hx hz hl r0 r1 r2 r3 r4 r5 r6 r7 r8 r9 r10 r11 r12 r13
  go_enter Tryz.func30, Tryz.ntmps30
  go_wp2_with (fail)
  have L0 : Aside0 ((bs).length + (encRows R0).length ≤ 140737488355328) := ⟨by have := HL.out; (try simp only [List.length_append]); omega⟩
  obtain ⟨A0, c0, q0, m0, n0⟩ := (HR0.out.next H0.out.2).shape
  have C0 := Aside0.mk (And.intro q0 (And.intro m0 n0))
  clear q0 m0 n0
  refine (list_item_w H0.out.1 (by rw [(H0.out.2.cs HX.out (by decide) hhb).cell]; exact C0.out.1) (Stay.cs (H0.out.2.cs HX.out (by decide) hhb) (by decide) hhb) C0.out.2.1 HR0.out.fits C0.out.2.2 HR0.out.few L0.out).mono ?_
  rintro e x1 ⟨rfl, p1, p2⟩
  have H1 : Aside0 (Wr B wb bb (bs ++ encRows R0) x1 ∧ Wk B bb w x1) := ⟨p1, H0.out.2.trans p2⟩
  clear p1 p2
  go_wp2_with (fail)
  have L1 : Aside0 (((bs ++ encRows R0)).length + (encRows R1).length ≤ 140737488355328) := ⟨by have := HL.out; (try simp only [List.length_append]); omega⟩
  obtain ⟨A1, c1, q1, m1, n1⟩ := (HR1.out.next H1.out.2).shape
  have C1 := Aside0.mk (And.intro q1 (And.intro m1 n1))
  clear q1 m1 n1
  refine (list_lot_w H1.out.1 (by rw [(H1.out.2.cs HX.out (by decide) hhb).cell]; exact C1.out.1) (Stay.cs (H1.out.2.cs HX.out (by decide) hhb) (by decide) hhb) C1.out.2.1 HR1.out.fits C1.out.2.2 HR1.out.few L1.out).mono ?_
  rintro e x2 ⟨rfl, p1, p2⟩
  have H2 : Aside0 (Wr B wb bb ((bs ++ encRows R0) ++ encRows R1) x2 ∧ Wk B bb w x2) := ⟨p1, H1.out.2.trans p2⟩
  clear p1 p2
  go_wp2_with (fail)
  have L2 : Aside0 ((((bs ++ encRows R0) ++ encRows R1)).length + (encRows R2).length ≤ 140737488355328) := ⟨by have := HL.out; (try simp only [List.length_append]); omega⟩
  obtain ⟨A2, c2, q2, m2, n2⟩ := (HR2.out.next H2.out.2).shape
  have C2 := Aside0.mk (And.intro q2 (And.intro m2 n2))
  clear q2 m2 n2
  refine (list_zone_w H2.out.1 (by rw [(H2.out.2.cs HX.out (by decide) hhb).cell]; exact C2.out.1) (Stay.cs (H2.out.2.cs HX.out (by decide) hhb) (by decide) hhb) C2.out.2.1 HR2.out.fits C2.out.2.2 HR2.out.few L2.out).mono ?_
  rintro e x3 ⟨rfl, p1, p2⟩
  have H3 : Aside0 (Wr B wb bb (((bs ++ encRows R0) ++ encRows R1) ++ encRows R2) x3 ∧ Wk B bb w x3) := ⟨p1, H2.out.2.trans p2⟩
  clear p1 p2
  go_wp2_with (fail)
  have L3 : Aside0 (((((bs ++ encRows R0) ++ encRows R1) ++ encRows R2)).length + (encRows R3).length ≤ 140737488355328) := ⟨by have := HL.out; (try simp only [List.length_append]); omega⟩
  obtain ⟨A3, c3, q3, m3, n3⟩ := (HR3.out.next H3.out.2).shape
  have C3 := Aside0.mk (And.intro q3 (And.intro m3 n3))
  clear q3 m3 n3
  refine (list_bin_w H3.out.1 (by rw [(H3.out.2.cs HX.out (by decide) hhb).cell]; exact C3.out.1) (Stay.cs (H3.out.2.cs HX.out (by decide) hhb) (by decide) hhb) C3.out.2.1 HR3.out.fits C3.out.2.2 HR3.out.few L3.out).mono ?_
  rintro e x4 ⟨rfl, p1, p2⟩
  have H4 : Aside0 (Wr B wb bb ((((bs ++ encRows R0) ++ encRows R1) ++ encRows R2) ++ encRows R3) x4 ∧ Wk B bb w x4) := ⟨p1, H3.out.2.trans p2⟩
  clear p1 p2
  go_wp2_with (fail)
  have L4 : Aside0 ((((((bs ++ encRows R0) ++ encRows R1) ++ encRows R2) ++ encRows R3)).length + (encRows R4).length ≤ 140737488355328) := ⟨by have := HL.out; (try simp only [List.length_append]); omega⟩
  obtain ⟨A4, c4, q4, m4, n4⟩ := (HR4.out.next H4.out.2).shape
  have C4 := Aside0.mk (And.intro q4 (And.intro m4 n4))
  clear q4 m4 n4
  refine (list_quant_w H4.out.1 (by rw [(H4.out.2.cs HX.out (by decide) hhb).cell]; exact C4.out.1) (Stay.cs (H4.out.2.cs HX.out (by decide) hhb) (by decide) hhb) C4.out.2.1 HR4.out.fits C4.out.2.2 HR4.out.few L4.out).mono ?_
  rintro e x5 ⟨rfl, p1, p2⟩
  have H5 : Aside0 (Wr B wb bb (((((bs ++ encRows R0) ++ encRows R1) ++ encRows R2) ++ encRows R3) ++ encRows R4) x5 ∧ Wk B bb w x5) := ⟨p1, H4.out.2.trans p2⟩
  clear p1 p2
  go_wp2_with (fail)
  have L5 : Aside0 (((((((bs ++ encRows R0) ++ encRows R1) ++ encRows R2) ++ encRows R3) ++ encRows R4)).length + (encRows R5).length ≤ 140737488355328) := ⟨by have := HL.out; (try simp only [List.length_append]); omega⟩
  obtain ⟨A5, c5, q5, m5, n5⟩ := (HR5.out.next H5.out.2).shape
  have C5 := Aside0.mk (And.intro q5 (And.intro m5 n5))
  clear q5 m5 n5
  refine (list_rule_w H5.out.1 (by rw [(H5.out.2.cs HX.out (by decide) hhb).cell]; exact C5.out.1) (Stay.cs (H5.out.2.cs HX.out (by decide) hhb) (by decide) hhb) C5.out.2.1 HR5.out.fits C5.out.2.2 HR5.out.few L5.out).mono ?_
  rintro e x6 ⟨rfl, p1, p2⟩
  have H6 : Aside0 (Wr B wb bb ((((((bs ++ encRows R0) ++ encRows R1) ++ encRows R2) ++ encRows R3) ++ encRows R4) ++ encRows R5) x6 ∧ Wk B bb w x6) := ⟨p1, H5.out.2.trans p2⟩
  clear p1 p2
  go_wp2_with (fail)
  have L6 : Aside0 ((((((((bs ++ encRows R0) ++ encRows R1) ++ encRows R2) ++ encRows R3) ++ encRows R4) ++ encRows R5)).length + (encRows R6).length ≤ 140737488355328) := ⟨by have := HL.out; (try simp only [List.length_append]); omega⟩
  obtain ⟨A6, c6, q6, m6, n6⟩ := (HR6.out.next H6.out.2).shape
  have C6 := Aside0.mk (And.intro q6 (And.intro m6 n6))
  clear q6 m6 n6
  refine (list_notice_w H6.out.1 (by rw [(H6.out.2.cs HX.out (by decide) hhb).cell]; exact C6.out.1) (Stay.cs (H6.out.2.cs HX.out (by decide) hhb) (by decide) hhb) C6.out.2.1 HR6.out.fits C6.out.2.2 HR6.out.few L6.out).mono ?_
  rintro e x7 ⟨rfl, p1, p2⟩
  have H7 : Aside0 (Wr B wb bb (((((((bs ++ encRows R0) ++ encRows R1) ++ encRows R2) ++ encRows R3) ++ encRows R4) ++ encRows R5) ++ encRows R6) x7 ∧ Wk B bb w x7) := ⟨p1, H6.out.2.trans p2⟩
  clear p1 p2
  go_wp2_with (fail)
  have L7 : Aside0 (((((((((bs ++ encRows R0) ++ encRows R1) ++ encRows R2) ++ encRows R3) ++ encRows R4) ++ encRows R5) ++ encRows R6)).length + (encRows R7).length ≤ 140737488355328) := ⟨by have := HL.out; (try simp only [List.length_append]); omega⟩
  obtain ⟨A7, c7, q7, m7, n7⟩ := (HR7.out.next H7.out.2).shape
  have C7 := Aside0.mk (And.intro q7 (And.intro m7 n7))
  clear q7 m7 n7
  refine (list_order_w H7.out.1 (by rw [(H7.out.2.cs HX.out (by decide) hhb).cell]; exact C7.out.1) (Stay.cs (H7.out.2.cs HX.out (by decide) hhb) (by decide) hhb) C7.out.2.1 HR7.out.fits C7.out.2.2 HR7.out.few L7.out).mono ?_
  rintro e x8 ⟨rfl, p1, p2⟩
  have H8 : Aside0 (Wr B wb bb ((((((((bs ++ encRows R0) ++ encRows R1) ++ encRows R2) ++ encRows R3) ++ encRows R4) ++ encRows R5) ++ encRows R6) ++ encRows R7) x8 ∧ Wk B bb w x8) := ⟨p1, H7.out.2.trans p2⟩
  clear p1 p2
  go_wp2_with (fail)
  have L8 : Aside0 ((((((((((bs ++ encRows R0) ++ encRows R1) ++ encRows R2) ++ encRows R3) ++ encRows R4) ++ encRows R5) ++ encRows R6) ++ encRows R7)).length + (encRows R8).length ≤ 140737488355328) := ⟨by have := HL.out; (try simp only [List.length_append]); omega⟩
  obtain ⟨A8, c8, q8, m8, n8⟩ := (HR8.out.next H8.out.2).shape
  have C8 := Aside0.mk (And.intro q8 (And.intro m8 n8))
  clear q8 m8 n8
  refine (list_claim_w H8.out.1 (by rw [(H8.out.2.cs HX.out (by decide) hhb).cell]; exact C8.out.1) (Stay.cs (H8.out.2.cs HX.out (by decide) hhb) (by decide) hhb) C8.out.2.1 HR8.out.fits C8.out.2.2 HR8.out.few L8.out).mono ?_
  rintro e x9 ⟨rfl, p1, p2⟩
  have H9 : Aside0 (Wr B wb bb (((((((((bs ++ encRows R0) ++ encRows R1) ++ encRows R2) ++ encRows R3) ++ encRows R4) ++ encRows R5) ++ encRows R6) ++ encRows R7) ++ encRows R8) x9 ∧ Wk B bb w x9) := ⟨p1, H8.out.2.trans p2⟩
  clear p1 p2
  go_wp2_with (fail)
  have L9 : Aside0 (((((((((((bs ++ encRows R0) ++ encRows R1) ++ encRows R2) ++ encRows R3) ++ encRows R4) ++ encRows R5) ++ encRows R6) ++ encRows R7) ++ encRows R8)).length + (encRows R9).length ≤ 140737488355328) := ⟨by have := HL.out; (try simp only [List.length_append]); omega⟩
  obtain ⟨A9, c9, q9, m9, n9⟩ := (HR9.out.next H9.out.2).shape
  have C9 := Aside0.mk (And.intro q9 (And.intro m9 n9))
  clear q9 m9 n9
  refine (list_task_w H9.out.1 (by rw [(H9.out.2.cs HX.out (by decide) hhb).cell]; exact C9.out.1) (Stay.cs (H9.out.2.cs HX.out (by decide) hhb) (by decide) hhb) C9.out.2.1 HR9.out.fits C9.out.2.2 HR9.out.few L9.out).mono ?_
  rintro e x10 ⟨rfl, p1, p2⟩
  have H10 : Aside0 (Wr B wb bb ((((((((((bs ++ encRows R0) ++ encRows R1) ++ encRows R2) ++ encRows R3) ++ encRows R4) ++ encRows R5) ++ encRows R6) ++ encRows R7) ++ encRows R8) ++ encRows R9) x10 ∧ Wk B bb w x10) := ⟨p1, H9.out.2.trans p2⟩
  clear p1 p2
  go_wp2_with (fail)
  have L10 : Aside0 ((((((((((((bs ++ encRows R0) ++ encRows R1) ++ encRows R2) ++ encRows R3) ++ encRows R4) ++ encRows R5) ++ encRows R6) ++ encRows R7) ++ encRows R8) ++ encRows R9)).length + (encRows R10).length ≤ 140737488355328) := ⟨by have := HL.out; (try simp only [List.length_append]); omega⟩
  obtain ⟨A10, c10, q10, m10, n10⟩ := (HR10.out.next H10.out.2).shape
  have C10 := Aside0.mk (And.intro q10 (And.intro m10 n10))
  clear q10 m10 n10
  refine (list_parcel_w H10.out.1 (by rw [(H10.out.2.cs HX.out (by decide) hhb).cell]; exact C10.out.1) (Stay.cs (H10.out.2.cs HX.out (by decide) hhb) (by decide) hhb) C10.out.2.1 HR10.out.fits C10.out.2.2 HR10.out.few L10.out).mono ?_
  rintro e x11 ⟨rfl, p1, p2⟩
  have H11 : Aside0 (Wr B wb bb (((((((((((bs ++ encRows R0) ++ encRows R1) ++ encRows R2) ++ encRows R3) ++ encRows R4) ++ encRows R5) ++ encRows R6) ++ encRows R7) ++ encRows R8) ++ encRows R9) ++ encRows R10) x11 ∧ Wk B bb w x11) := ⟨p1, H10.out.2.trans p2⟩
  clear p1 p2
  go_wp2_with (fail)
  have L11 : Aside0 (((((((((((((bs ++ encRows R0) ++ encRows R1) ++ encRows R2) ++ encRows R3) ++ encRows R4) ++ encRows R5) ++ encRows R6) ++ encRows R7) ++ encRows R8) ++ encRows R9) ++ encRows R10)).length + (encRows R11).length ≤ 140737488355328) := ⟨by have := HL.out; (try simp only [List.length_append]); omega⟩
  obtain ⟨A11, c11, q11, m11, n11⟩ := (HR11.out.next H11.out.2).shape
  have C11 := Aside0.mk (And.intro q11 (And.intro m11 n11))
  clear q11 m11 n11
  refine (list_sent_w H11.out.1 (by rw [(H11.out.2.cs HX.out (by decide) hhb).cell]; exact C11.out.1) (Stay.cs (H11.out.2.cs HX.out (by decide) hhb) (by decide) hhb) C11.out.2.1 HR11.out.fits C11.out.2.2 HR11.out.few L11.out).mono ?_
  rintro e x12 ⟨rfl, p1, p2⟩
  have H12 : Aside0 (Wr B wb bb ((((((((((((bs ++ encRows R0) ++ encRows R1) ++ encRows R2) ++ encRows R3) ++ encRows R4) ++ encRows R5) ++ encRows R6) ++ encRows R7) ++ encRows R8) ++ encRows R9) ++ encRows R10) ++ encRows R11) x12 ∧ Wk B bb w x12) := ⟨p1, H11.out.2.trans p2⟩
  clear p1 p2
  go_wp2_with (fail)
  have L12 : Aside0 ((((((((((((((bs ++ encRows R0) ++ encRows R1) ++ encRows R2) ++ encRows R3) ++ encRows R4) ++ encRows R5) ++ encRows R6) ++ encRows R7) ++ encRows R8) ++ encRows R9) ++ encRows R10) ++ encRows R11)).length + (encRows R12).length ≤ 140737488355328) := ⟨by have := HL.out; (try simp only [List.length_append]); omega⟩
  obtain ⟨A12, c12, q12, m12, n12⟩ := (HR12.out.next H12.out.2).shape
  have C12 := Aside0.mk (And.intro q12 (And.intro m12 n12))
  clear q12 m12 n12
  refine (list_counted_w H12.out.1 (by rw [(H12.out.2.cs HX.out (by decide) hhb).cell]; exact C12.out.1) (Stay.cs (H12.out.2.cs HX.out (by decide) hhb) (by decide) hhb) C12.out.2.1 HR12.out.fits C12.out.2.2 HR12.out.few L12.out).mono ?_
  rintro e x13 ⟨rfl, p1, p2⟩
  have H13 : Aside0 (Wr B wb bb (((((((((((((bs ++ encRows R0) ++ encRows R1) ++ encRows R2) ++ encRows R3) ++ encRows R4) ++ encRows R5) ++ encRows R6) ++ encRows R7) ++ encRows R8) ++ encRows R9) ++ encRows R10) ++ encRows R11) ++ encRows R12) x13 ∧ Wk B bb w x13) := ⟨p1, H12.out.2.trans p2⟩
  clear p1 p2
  go_wp2_with (fail)
  have L13 : Aside0 (((((((((((((((bs ++ encRows R0) ++ encRows R1) ++ encRows R2) ++ encRows R3) ++ encRows R4) ++ encRows R5) ++ encRows R6) ++ encRows R7) ++ encRows R8) ++ encRows R9) ++ encRows R10) ++ encRows R11) ++ encRows R12)).length + (encRows R13).length ≤ 140737488355328) := ⟨by have := HL.out; (try simp only [List.length_append]); omega⟩
  obtain ⟨A13, c13, q13, m13, n13⟩ := (HR13.out.next H13.out.2).shape
  have C13 := Aside0.mk (And.intro q13 (And.intro m13 n13))
  clear q13 m13 n13
  refine (list_total_w H13.out.1 (by rw [(H13.out.2.cs HX.out (by decide) hhb).cell]; exact C13.out.1) (Stay.cs (H13.out.2.cs HX.out (by decide) hhb) (by decide) hhb) C13.out.2.1 HR13.out.fits C13.out.2.2 HR13.out.few L13.out).mono ?_
  rintro e x14 ⟨rfl, p1, p2⟩
  have H14 : Aside0 (Wr B wb bb ((((((((((((((bs ++ encRows R0) ++ encRows R1) ++ encRows R2) ++ encRows R3) ++ encRows R4) ++ encRows R5) ++ encRows R6) ++ encRows R7) ++ encRows R8) ++ encRows R9) ++ encRows R10) ++ encRows R11) ++ encRows R12) ++ encRows R13) x14 ∧ Wk B bb w x14) := ⟨p1, H13.out.2.trans p2⟩
  clear p1 p2
  go_wp2_with (fail)
  have L14 : Aside0 ((((((((((((((((bs ++ encRows R0) ++ encRows R1) ++ encRows R2) ++ encRows R3) ++ encRows R4) ++ encRows R5) ++ encRows R6) ++ encRows R7) ++ encRows R8) ++ encRows R9) ++ encRows R10) ++ encRows R11) ++ encRows R12) ++ encRows R13)).length + (digits (foldN z)).length ≤ 140737488355328) := ⟨by have := HL.out; (try simp only [List.length_append]); omega⟩
  have E14 : Aside0 (encAt (at_ .n [14]) hcs = digits (foldN z) ∧ OkAt (at_ .n [14]) hcs) := ⟨⟨by simp [at_, encAt, List.getD_eq_getElem?_getD, HZ.out, encV], fun y hy => by rw [show y = (.n, 14) from by simpa [at_] using hy]; exact ⟨_, HZ.out, z, rfl⟩⟩⟩
  refine (nums_wc (alloc_below _ _) [14] (cs_alloc _ _ _ _ rfl) H14.out.1 (H14.out.2.cs HX.out (by decide) hhb) (by decide) (by decide) rfl E14.out.2 (by rw [E14.out.1]; exact L14.out) (by decide)).mono ?_
  rintro e x15 ⟨rfl, p1, p2⟩
  have H15 : Aside0 (Wr B wb bb (((((((((((((((bs ++ encRows R0) ++ encRows R1) ++ encRows R2) ++ encRows R3) ++ encRows R4) ++ encRows R5) ++ encRows R6) ++ encRows R7) ++ encRows R8) ++ encRows R9) ++ encRows R10) ++ encRows R11) ++ encRows R12) ++ encRows R13) ++ digits (foldN z)) x15 ∧ Wk B bb w x15) := ⟨by rw [← E14.out.1]; exact p1, H14.out.2.trans p2⟩
  clear p1 p2
  go_wp2
  go_end0
  refine ⟨rfl, ?_, H15.out.2⟩
  have := H15.out.1
  unfold enc_house
  simpa only [List.append_assoc] using this
def st_house_0 (s : Rd) : Rd := s
def st_house_1 (s : Rd) : Rd := (rdList ks_item (st_house_0 s)).1
def st_house_2 (s : Rd) : Rd := (rdList ks_lot (st_house_1 s)).1
def st_house_3 (s : Rd) : Rd := (rdList ks_zone (st_house_2 s)).1
def st_house_4 (s : Rd) : Rd := (rdList ks_bin (st_house_3 s)).1
def st_house_5 (s : Rd) : Rd := (rdList ks_quant (st_house_4 s)).1
def st_house_6 (s : Rd) : Rd := (rdList ks_rule (st_house_5 s)).1
def st_house_7 (s : Rd) : Rd := (rdList ks_notice (st_house_6 s)).1
def st_house_8 (s : Rd) : Rd := (rdList ks_order (st_house_7 s)).1
def st_house_9 (s : Rd) : Rd := (rdList ks_claim (st_house_8 s)).1
def st_house_10 (s : Rd) : Rd := (rdList ks_task (st_house_9 s)).1
def st_house_11 (s : Rd) : Rd := (rdList ks_parcel (st_house_10 s)).1
def st_house_12 (s : Rd) : Rd := (rdList ks_sent (st_house_11 s)).1
def st_house_13 (s : Rd) : Rd := (rdList ks_counted (st_house_12 s)).1
def st_house_14 (s : Rd) : Rd := (rdList ks_total (st_house_13 s)).1
def st_house_15 (s : Rd) : Rd := (takeN (st_house_14 s)).2
theorem st_house_1_eq (s : Rd) : st_house_1 s = (rdList ks_item (st_house_0 s)).1 := rfl
theorem st_house_2_eq (s : Rd) : st_house_2 s = (rdList ks_lot (st_house_1 s)).1 := rfl
theorem st_house_3_eq (s : Rd) : st_house_3 s = (rdList ks_zone (st_house_2 s)).1 := rfl
theorem st_house_4_eq (s : Rd) : st_house_4 s = (rdList ks_bin (st_house_3 s)).1 := rfl
theorem st_house_5_eq (s : Rd) : st_house_5 s = (rdList ks_quant (st_house_4 s)).1 := rfl
theorem st_house_6_eq (s : Rd) : st_house_6 s = (rdList ks_rule (st_house_5 s)).1 := rfl
theorem st_house_7_eq (s : Rd) : st_house_7 s = (rdList ks_notice (st_house_6 s)).1 := rfl
theorem st_house_8_eq (s : Rd) : st_house_8 s = (rdList ks_order (st_house_7 s)).1 := rfl
theorem st_house_9_eq (s : Rd) : st_house_9 s = (rdList ks_claim (st_house_8 s)).1 := rfl
theorem st_house_10_eq (s : Rd) : st_house_10 s = (rdList ks_task (st_house_9 s)).1 := rfl
theorem st_house_11_eq (s : Rd) : st_house_11 s = (rdList ks_parcel (st_house_10 s)).1 := rfl
theorem st_house_12_eq (s : Rd) : st_house_12 s = (rdList ks_sent (st_house_11 s)).1 := rfl
theorem st_house_13_eq (s : Rd) : st_house_13 s = (rdList ks_counted (st_house_12 s)).1 := rfl
theorem st_house_14_eq (s : Rd) : st_house_14 s = (rdList ks_total (st_house_13 s)).1 := rfl
theorem st_house_15_eq (s : Rd) : st_house_15 s = (takeN (st_house_14 s)).2 := rfl
/-- The thing that was read: its lists' rows stand, each in a block that the call has made. -/
structure Out_house (w0 : World) (hb : Nat) (s : Rd) (hcs : List Value) (w : World) : Prop where
  rw : True
  r0 : ∃ v, hcs[0]? = some v ∧ w.ownsRow w0.heap.size 59 14 v (rdList ks_item (st_house_0 s)).2.length (rdList ks_item (st_house_0 s)).2.flatten
  r1 : ∃ v, hcs[1]? = some v ∧ w.ownsRow w0.heap.size 62 3 v (rdList ks_lot (st_house_1 s)).2.length (rdList ks_lot (st_house_1 s)).2.flatten
  r2 : ∃ v, hcs[2]? = some v ∧ w.ownsRow w0.heap.size 65 2 v (rdList ks_zone (st_house_2 s)).2.length (rdList ks_zone (st_house_2 s)).2.flatten
  r3 : ∃ v, hcs[3]? = some v ∧ w.ownsRow w0.heap.size 68 8 v (rdList ks_bin (st_house_3 s)).2.length (rdList ks_bin (st_house_3 s)).2.flatten
  r4 : ∃ v, hcs[4]? = some v ∧ w.ownsRow w0.heap.size 73 6 v (rdList ks_quant (st_house_4 s)).2.length (rdList ks_quant (st_house_4 s)).2.flatten
  r5 : ∃ v, hcs[5]? = some v ∧ w.ownsRow w0.heap.size 76 3 v (rdList ks_rule (st_house_5 s)).2.length (rdList ks_rule (st_house_5 s)).2.flatten
  r6 : ∃ v, hcs[6]? = some v ∧ w.ownsRow w0.heap.size 82 51 v (rdList ks_notice (st_house_6 s)).2.length (rdList ks_notice (st_house_6 s)).2.flatten
  r7 : ∃ v, hcs[7]? = some v ∧ w.ownsRow w0.heap.size 85 50 v (rdList ks_order (st_house_7 s)).2.length (rdList ks_order (st_house_7 s)).2.flatten
  r8 : ∃ v, hcs[8]? = some v ∧ w.ownsRow w0.heap.size 88 8 v (rdList ks_claim (st_house_8 s)).2.length (rdList ks_claim (st_house_8 s)).2.flatten
  r9 : ∃ v, hcs[9]? = some v ∧ w.ownsRow w0.heap.size 91 11 v (rdList ks_task (st_house_9 s)).2.length (rdList ks_task (st_house_9 s)).2.flatten
  r10 : ∃ v, hcs[10]? = some v ∧ w.ownsRow w0.heap.size 94 2 v (rdList ks_parcel (st_house_10 s)).2.length (rdList ks_parcel (st_house_10 s)).2.flatten
  r11 : ∃ v, hcs[11]? = some v ∧ w.ownsRow w0.heap.size 97 5 v (rdList ks_sent (st_house_11 s)).2.length (rdList ks_sent (st_house_11 s)).2.flatten
  r12 : ∃ v, hcs[12]? = some v ∧ w.ownsRow w0.heap.size 100 5 v (rdList ks_counted (st_house_12 s)).2.length (rdList ks_counted (st_house_12 s)).2.flatten
  r13 : ∃ v, hcs[13]? = some v ∧ w.ownsRow w0.heap.size 103 6 v (rdList ks_total (st_house_13 s)).2.length (rdList ks_total (st_house_13 s)).2.flatten
  n14 : hcs[14]? = some (.int .i64 (unfoldN (takeN (st_house_14 s)).1))
def Read_house (wb hb : Nat) (s : Rd) (w : World) (e : Ending) (w' : World) : Prop := e = .returned (.tuple #[]) ∧ ∃ hcs, hcs.length = 15 ∧ Rw wb (st_house_15 s) w' ∧ Cs hb 37 hcs w' ∧ Fr (fun i => i = wb ∨ i = hb) w w' ∧ Out_house w hb s hcs w'
theorem st_house_0_len (s : Rd) : (st_house_0 s).D.length ≤ s.D.length := Nat.le_refl _
theorem st_house_1_len (s : Rd) : (st_house_1 s).D.length ≤ s.D.length := Nat.le_trans (rdList_len _ _) (st_house_0_len s)
theorem st_house_2_len (s : Rd) : (st_house_2 s).D.length ≤ s.D.length := Nat.le_trans (rdList_len _ _) (st_house_1_len s)
theorem st_house_3_len (s : Rd) : (st_house_3 s).D.length ≤ s.D.length := Nat.le_trans (rdList_len _ _) (st_house_2_len s)
theorem st_house_4_len (s : Rd) : (st_house_4 s).D.length ≤ s.D.length := Nat.le_trans (rdList_len _ _) (st_house_3_len s)
theorem st_house_5_len (s : Rd) : (st_house_5 s).D.length ≤ s.D.length := Nat.le_trans (rdList_len _ _) (st_house_4_len s)
theorem st_house_6_len (s : Rd) : (st_house_6 s).D.length ≤ s.D.length := Nat.le_trans (rdList_len _ _) (st_house_5_len s)
theorem st_house_7_len (s : Rd) : (st_house_7 s).D.length ≤ s.D.length := Nat.le_trans (rdList_len _ _) (st_house_6_len s)
theorem st_house_8_len (s : Rd) : (st_house_8 s).D.length ≤ s.D.length := Nat.le_trans (rdList_len _ _) (st_house_7_len s)
theorem st_house_9_len (s : Rd) : (st_house_9 s).D.length ≤ s.D.length := Nat.le_trans (rdList_len _ _) (st_house_8_len s)
theorem st_house_10_len (s : Rd) : (st_house_10 s).D.length ≤ s.D.length := Nat.le_trans (rdList_len _ _) (st_house_9_len s)
theorem st_house_11_len (s : Rd) : (st_house_11 s).D.length ≤ s.D.length := Nat.le_trans (rdList_len _ _) (st_house_10_len s)
theorem st_house_12_len (s : Rd) : (st_house_12 s).D.length ≤ s.D.length := Nat.le_trans (rdList_len _ _) (st_house_11_len s)
theorem st_house_13_len (s : Rd) : (st_house_13 s).D.length ≤ s.D.length := Nat.le_trans (rdList_len _ _) (st_house_12_len s)
theorem st_house_14_len (s : Rd) : (st_house_14 s).D.length ≤ s.D.length := Nat.le_trans (rdList_len _ _) (st_house_13_len s)
theorem st_house_15_len (s : Rd) : (st_house_15 s).D.length ≤ s.D.length := Nat.le_trans (take_len _) (st_house_14_len s)
theorem st_house_0_eq (s : Rd) : st_house_0 s = s := rfl
attribute [local irreducible] st_house_0 st_house_1 st_house_2 st_house_3 st_house_4 st_house_5 st_house_6 st_house_7 st_house_8 st_house_9 st_house_10 st_house_11 st_house_12 st_house_13 st_house_14 st_house_15
set_option maxHeartbeats 16000000 in
set_option maxRecDepth 100000 in
theorem house_r {wb hb : Nat} {s : Rd} {w : World} (h : Rw wb s w) (hx : Cs hb 37 [.slice none 0 0, .slice none 0 0, .slice none 0 0, .slice none 0 0, .slice none 0 0, .slice none 0 0, .slice none 0 0, .slice none 0 0, .slice none 0 0, .slice none 0 0, .slice none 0 0, .slice none 0 0, .slice none 0 0, .slice none 0 0, .int .i64 0] w) (hne : hb ≠ wb) (hl : s.D.length ≤ 100000000) :
    Calls Tryz.prog 30 #[.pointer (some ⟨wb, 0, none⟩), .pointer (some ⟨hb, 0, none⟩)] w (Read_house wb hb s w) := by
  have H0 : Aside0 (Rw wb (st_house_0 s) w ∧ Cs hb 37 [.slice none 0 0, .slice none 0 0, .slice none 0 0, .slice none 0 0, .slice none 0 0, .slice none 0 0, .slice none 0 0, .slice none 0 0, .slice none 0 0, .slice none 0 0, .slice none 0 0, .slice none 0 0, .slice none 0 0, .slice none 0 0, .int .i64 0] w ∧ Fr (fun i => i = wb ∨ i = hb) w w) := ⟨by rw [st_house_0_eq]; exact h, hx, Fr.refl _ _⟩
  have HN := Aside0.mk hne
  have HLN : Aside0 (s.D.length ≤ 100000000) := ⟨hl⟩
  clear h hx hne hl
  go_enter Tryz.func30, Tryz.ntmps30
  go_wp2_with (fail)
  refine (list_item_r H0.out.1 H0.out.2.1 rfl HN.out (by decide) (Nat.le_trans (st_house_0_len s) HLN.out)).mono ?_
  rintro e x1 ⟨rfl, v0, ⟨p1, p2, p4, p3⟩⟩
  rw [← st_house_1_eq] at p1
  have H1 : Aside0 (Rw wb (st_house_1 s) x1 ∧ Cs hb 37 [v0, .slice none 0 0, .slice none 0 0, .slice none 0 0, .slice none 0 0, .slice none 0 0, .slice none 0 0, .slice none 0 0, .slice none 0 0, .slice none 0 0, .slice none 0 0, .slice none 0 0, .slice none 0 0, .slice none 0 0, .int .i64 0] x1 ∧ Fr (fun i => i = wb ∨ i = hb) w x1) := ⟨p1, p2, H0.out.2.2.trans p3 fun i hi => .inl hi⟩
  have O0_1 : Aside0 (x1.ownsRow w.heap.size 59 14 v0 (rdList ks_item (st_house_0 s)).2.length (rdList ks_item (st_house_0 s)).2.flatten) := ⟨own_mono p4 H0.out.2.2.size⟩
  clear p4
  clear p1 p2 p3
  go_wp2_with (fail)
  refine (list_lot_r H1.out.1 H1.out.2.1 rfl HN.out (by decide) (Nat.le_trans (st_house_1_len s) HLN.out)).mono ?_
  rintro e x2 ⟨rfl, v1, ⟨p1, p2, p4, p3⟩⟩
  rw [← st_house_2_eq] at p1
  have H2 : Aside0 (Rw wb (st_house_2 s) x2 ∧ Cs hb 37 [v0, v1, .slice none 0 0, .slice none 0 0, .slice none 0 0, .slice none 0 0, .slice none 0 0, .slice none 0 0, .slice none 0 0, .slice none 0 0, .slice none 0 0, .slice none 0 0, .slice none 0 0, .slice none 0 0, .int .i64 0] x2 ∧ Fr (fun i => i = wb ∨ i = hb) w x2) := ⟨p1, p2, H1.out.2.2.trans p3 fun i hi => .inl hi⟩
  have O0_2 : Aside0 (x2.ownsRow w.heap.size 59 14 v0 (rdList ks_item (st_house_0 s)).2.length (rdList ks_item (st_house_0 s)).2.flatten) := ⟨own_step (w0 := w) O0_1.out H1.out.1 H1.out.2.1 (by decide) (by decide) p3⟩
  clear O0_1
  have O1_2 : Aside0 (x2.ownsRow w.heap.size 62 3 v1 (rdList ks_lot (st_house_1 s)).2.length (rdList ks_lot (st_house_1 s)).2.flatten) := ⟨own_mono p4 H1.out.2.2.size⟩
  clear p4
  clear p1 p2 p3
  go_wp2_with (fail)
  refine (list_zone_r H2.out.1 H2.out.2.1 rfl HN.out (by decide) (Nat.le_trans (st_house_2_len s) HLN.out)).mono ?_
  rintro e x3 ⟨rfl, v2, ⟨p1, p2, p4, p3⟩⟩
  rw [← st_house_3_eq] at p1
  have H3 : Aside0 (Rw wb (st_house_3 s) x3 ∧ Cs hb 37 [v0, v1, v2, .slice none 0 0, .slice none 0 0, .slice none 0 0, .slice none 0 0, .slice none 0 0, .slice none 0 0, .slice none 0 0, .slice none 0 0, .slice none 0 0, .slice none 0 0, .slice none 0 0, .int .i64 0] x3 ∧ Fr (fun i => i = wb ∨ i = hb) w x3) := ⟨p1, p2, H2.out.2.2.trans p3 fun i hi => .inl hi⟩
  have O0_3 : Aside0 (x3.ownsRow w.heap.size 59 14 v0 (rdList ks_item (st_house_0 s)).2.length (rdList ks_item (st_house_0 s)).2.flatten) := ⟨own_step (w0 := w) O0_2.out H2.out.1 H2.out.2.1 (by decide) (by decide) p3⟩
  clear O0_2
  have O1_3 : Aside0 (x3.ownsRow w.heap.size 62 3 v1 (rdList ks_lot (st_house_1 s)).2.length (rdList ks_lot (st_house_1 s)).2.flatten) := ⟨own_step (w0 := w) O1_2.out H2.out.1 H2.out.2.1 (by decide) (by decide) p3⟩
  clear O1_2
  have O2_3 : Aside0 (x3.ownsRow w.heap.size 65 2 v2 (rdList ks_zone (st_house_2 s)).2.length (rdList ks_zone (st_house_2 s)).2.flatten) := ⟨own_mono p4 H2.out.2.2.size⟩
  clear p4
  clear p1 p2 p3
  go_wp2_with (fail)
  refine (list_bin_r H3.out.1 H3.out.2.1 rfl HN.out (by decide) (Nat.le_trans (st_house_3_len s) HLN.out)).mono ?_
  rintro e x4 ⟨rfl, v3, ⟨p1, p2, p4, p3⟩⟩
  rw [← st_house_4_eq] at p1
  have H4 : Aside0 (Rw wb (st_house_4 s) x4 ∧ Cs hb 37 [v0, v1, v2, v3, .slice none 0 0, .slice none 0 0, .slice none 0 0, .slice none 0 0, .slice none 0 0, .slice none 0 0, .slice none 0 0, .slice none 0 0, .slice none 0 0, .slice none 0 0, .int .i64 0] x4 ∧ Fr (fun i => i = wb ∨ i = hb) w x4) := ⟨p1, p2, H3.out.2.2.trans p3 fun i hi => .inl hi⟩
  have O0_4 : Aside0 (x4.ownsRow w.heap.size 59 14 v0 (rdList ks_item (st_house_0 s)).2.length (rdList ks_item (st_house_0 s)).2.flatten) := ⟨own_step (w0 := w) O0_3.out H3.out.1 H3.out.2.1 (by decide) (by decide) p3⟩
  clear O0_3
  have O1_4 : Aside0 (x4.ownsRow w.heap.size 62 3 v1 (rdList ks_lot (st_house_1 s)).2.length (rdList ks_lot (st_house_1 s)).2.flatten) := ⟨own_step (w0 := w) O1_3.out H3.out.1 H3.out.2.1 (by decide) (by decide) p3⟩
  clear O1_3
  have O2_4 : Aside0 (x4.ownsRow w.heap.size 65 2 v2 (rdList ks_zone (st_house_2 s)).2.length (rdList ks_zone (st_house_2 s)).2.flatten) := ⟨own_step (w0 := w) O2_3.out H3.out.1 H3.out.2.1 (by decide) (by decide) p3⟩
  clear O2_3
  have O3_4 : Aside0 (x4.ownsRow w.heap.size 68 8 v3 (rdList ks_bin (st_house_3 s)).2.length (rdList ks_bin (st_house_3 s)).2.flatten) := ⟨own_mono p4 H3.out.2.2.size⟩
  clear p4
  clear p1 p2 p3
  go_wp2_with (fail)
  refine (list_quant_r H4.out.1 H4.out.2.1 rfl HN.out (by decide) (Nat.le_trans (st_house_4_len s) HLN.out)).mono ?_
  rintro e x5 ⟨rfl, v4, ⟨p1, p2, p4, p3⟩⟩
  rw [← st_house_5_eq] at p1
  have H5 : Aside0 (Rw wb (st_house_5 s) x5 ∧ Cs hb 37 [v0, v1, v2, v3, v4, .slice none 0 0, .slice none 0 0, .slice none 0 0, .slice none 0 0, .slice none 0 0, .slice none 0 0, .slice none 0 0, .slice none 0 0, .slice none 0 0, .int .i64 0] x5 ∧ Fr (fun i => i = wb ∨ i = hb) w x5) := ⟨p1, p2, H4.out.2.2.trans p3 fun i hi => .inl hi⟩
  have O0_5 : Aside0 (x5.ownsRow w.heap.size 59 14 v0 (rdList ks_item (st_house_0 s)).2.length (rdList ks_item (st_house_0 s)).2.flatten) := ⟨own_step (w0 := w) O0_4.out H4.out.1 H4.out.2.1 (by decide) (by decide) p3⟩
  clear O0_4
  have O1_5 : Aside0 (x5.ownsRow w.heap.size 62 3 v1 (rdList ks_lot (st_house_1 s)).2.length (rdList ks_lot (st_house_1 s)).2.flatten) := ⟨own_step (w0 := w) O1_4.out H4.out.1 H4.out.2.1 (by decide) (by decide) p3⟩
  clear O1_4
  have O2_5 : Aside0 (x5.ownsRow w.heap.size 65 2 v2 (rdList ks_zone (st_house_2 s)).2.length (rdList ks_zone (st_house_2 s)).2.flatten) := ⟨own_step (w0 := w) O2_4.out H4.out.1 H4.out.2.1 (by decide) (by decide) p3⟩
  clear O2_4
  have O3_5 : Aside0 (x5.ownsRow w.heap.size 68 8 v3 (rdList ks_bin (st_house_3 s)).2.length (rdList ks_bin (st_house_3 s)).2.flatten) := ⟨own_step (w0 := w) O3_4.out H4.out.1 H4.out.2.1 (by decide) (by decide) p3⟩
  clear O3_4
  have O4_5 : Aside0 (x5.ownsRow w.heap.size 73 6 v4 (rdList ks_quant (st_house_4 s)).2.length (rdList ks_quant (st_house_4 s)).2.flatten) := ⟨own_mono p4 H4.out.2.2.size⟩
  clear p4
  clear p1 p2 p3
  go_wp2_with (fail)
  refine (list_rule_r H5.out.1 H5.out.2.1 rfl HN.out (by decide) (Nat.le_trans (st_house_5_len s) HLN.out)).mono ?_
  rintro e x6 ⟨rfl, v5, ⟨p1, p2, p4, p3⟩⟩
  rw [← st_house_6_eq] at p1
  have H6 : Aside0 (Rw wb (st_house_6 s) x6 ∧ Cs hb 37 [v0, v1, v2, v3, v4, v5, .slice none 0 0, .slice none 0 0, .slice none 0 0, .slice none 0 0, .slice none 0 0, .slice none 0 0, .slice none 0 0, .slice none 0 0, .int .i64 0] x6 ∧ Fr (fun i => i = wb ∨ i = hb) w x6) := ⟨p1, p2, H5.out.2.2.trans p3 fun i hi => .inl hi⟩
  have O0_6 : Aside0 (x6.ownsRow w.heap.size 59 14 v0 (rdList ks_item (st_house_0 s)).2.length (rdList ks_item (st_house_0 s)).2.flatten) := ⟨own_step (w0 := w) O0_5.out H5.out.1 H5.out.2.1 (by decide) (by decide) p3⟩
  clear O0_5
  have O1_6 : Aside0 (x6.ownsRow w.heap.size 62 3 v1 (rdList ks_lot (st_house_1 s)).2.length (rdList ks_lot (st_house_1 s)).2.flatten) := ⟨own_step (w0 := w) O1_5.out H5.out.1 H5.out.2.1 (by decide) (by decide) p3⟩
  clear O1_5
  have O2_6 : Aside0 (x6.ownsRow w.heap.size 65 2 v2 (rdList ks_zone (st_house_2 s)).2.length (rdList ks_zone (st_house_2 s)).2.flatten) := ⟨own_step (w0 := w) O2_5.out H5.out.1 H5.out.2.1 (by decide) (by decide) p3⟩
  clear O2_5
  have O3_6 : Aside0 (x6.ownsRow w.heap.size 68 8 v3 (rdList ks_bin (st_house_3 s)).2.length (rdList ks_bin (st_house_3 s)).2.flatten) := ⟨own_step (w0 := w) O3_5.out H5.out.1 H5.out.2.1 (by decide) (by decide) p3⟩
  clear O3_5
  have O4_6 : Aside0 (x6.ownsRow w.heap.size 73 6 v4 (rdList ks_quant (st_house_4 s)).2.length (rdList ks_quant (st_house_4 s)).2.flatten) := ⟨own_step (w0 := w) O4_5.out H5.out.1 H5.out.2.1 (by decide) (by decide) p3⟩
  clear O4_5
  have O5_6 : Aside0 (x6.ownsRow w.heap.size 76 3 v5 (rdList ks_rule (st_house_5 s)).2.length (rdList ks_rule (st_house_5 s)).2.flatten) := ⟨own_mono p4 H5.out.2.2.size⟩
  clear p4
  clear p1 p2 p3
  go_wp2_with (fail)
  refine (list_notice_r H6.out.1 H6.out.2.1 rfl HN.out (by decide) (Nat.le_trans (st_house_6_len s) HLN.out)).mono ?_
  rintro e x7 ⟨rfl, v6, ⟨p1, p2, p4, p3⟩⟩
  rw [← st_house_7_eq] at p1
  have H7 : Aside0 (Rw wb (st_house_7 s) x7 ∧ Cs hb 37 [v0, v1, v2, v3, v4, v5, v6, .slice none 0 0, .slice none 0 0, .slice none 0 0, .slice none 0 0, .slice none 0 0, .slice none 0 0, .slice none 0 0, .int .i64 0] x7 ∧ Fr (fun i => i = wb ∨ i = hb) w x7) := ⟨p1, p2, H6.out.2.2.trans p3 fun i hi => .inl hi⟩
  have O0_7 : Aside0 (x7.ownsRow w.heap.size 59 14 v0 (rdList ks_item (st_house_0 s)).2.length (rdList ks_item (st_house_0 s)).2.flatten) := ⟨own_step (w0 := w) O0_6.out H6.out.1 H6.out.2.1 (by decide) (by decide) p3⟩
  clear O0_6
  have O1_7 : Aside0 (x7.ownsRow w.heap.size 62 3 v1 (rdList ks_lot (st_house_1 s)).2.length (rdList ks_lot (st_house_1 s)).2.flatten) := ⟨own_step (w0 := w) O1_6.out H6.out.1 H6.out.2.1 (by decide) (by decide) p3⟩
  clear O1_6
  have O2_7 : Aside0 (x7.ownsRow w.heap.size 65 2 v2 (rdList ks_zone (st_house_2 s)).2.length (rdList ks_zone (st_house_2 s)).2.flatten) := ⟨own_step (w0 := w) O2_6.out H6.out.1 H6.out.2.1 (by decide) (by decide) p3⟩
  clear O2_6
  have O3_7 : Aside0 (x7.ownsRow w.heap.size 68 8 v3 (rdList ks_bin (st_house_3 s)).2.length (rdList ks_bin (st_house_3 s)).2.flatten) := ⟨own_step (w0 := w) O3_6.out H6.out.1 H6.out.2.1 (by decide) (by decide) p3⟩
  clear O3_6
  have O4_7 : Aside0 (x7.ownsRow w.heap.size 73 6 v4 (rdList ks_quant (st_house_4 s)).2.length (rdList ks_quant (st_house_4 s)).2.flatten) := ⟨own_step (w0 := w) O4_6.out H6.out.1 H6.out.2.1 (by decide) (by decide) p3⟩
  clear O4_6
  have O5_7 : Aside0 (x7.ownsRow w.heap.size 76 3 v5 (rdList ks_rule (st_house_5 s)).2.length (rdList ks_rule (st_house_5 s)).2.flatten) := ⟨own_step (w0 := w) O5_6.out H6.out.1 H6.out.2.1 (by decide) (by decide) p3⟩
  clear O5_6
  have O6_7 : Aside0 (x7.ownsRow w.heap.size 82 51 v6 (rdList ks_notice (st_house_6 s)).2.length (rdList ks_notice (st_house_6 s)).2.flatten) := ⟨own_mono p4 H6.out.2.2.size⟩
  clear p4
  clear p1 p2 p3
  go_wp2_with (fail)
  refine (list_order_r H7.out.1 H7.out.2.1 rfl HN.out (by decide) (Nat.le_trans (st_house_7_len s) HLN.out)).mono ?_
  rintro e x8 ⟨rfl, v7, ⟨p1, p2, p4, p3⟩⟩
  rw [← st_house_8_eq] at p1
  have H8 : Aside0 (Rw wb (st_house_8 s) x8 ∧ Cs hb 37 [v0, v1, v2, v3, v4, v5, v6, v7, .slice none 0 0, .slice none 0 0, .slice none 0 0, .slice none 0 0, .slice none 0 0, .slice none 0 0, .int .i64 0] x8 ∧ Fr (fun i => i = wb ∨ i = hb) w x8) := ⟨p1, p2, H7.out.2.2.trans p3 fun i hi => .inl hi⟩
  have O0_8 : Aside0 (x8.ownsRow w.heap.size 59 14 v0 (rdList ks_item (st_house_0 s)).2.length (rdList ks_item (st_house_0 s)).2.flatten) := ⟨own_step (w0 := w) O0_7.out H7.out.1 H7.out.2.1 (by decide) (by decide) p3⟩
  clear O0_7
  have O1_8 : Aside0 (x8.ownsRow w.heap.size 62 3 v1 (rdList ks_lot (st_house_1 s)).2.length (rdList ks_lot (st_house_1 s)).2.flatten) := ⟨own_step (w0 := w) O1_7.out H7.out.1 H7.out.2.1 (by decide) (by decide) p3⟩
  clear O1_7
  have O2_8 : Aside0 (x8.ownsRow w.heap.size 65 2 v2 (rdList ks_zone (st_house_2 s)).2.length (rdList ks_zone (st_house_2 s)).2.flatten) := ⟨own_step (w0 := w) O2_7.out H7.out.1 H7.out.2.1 (by decide) (by decide) p3⟩
  clear O2_7
  have O3_8 : Aside0 (x8.ownsRow w.heap.size 68 8 v3 (rdList ks_bin (st_house_3 s)).2.length (rdList ks_bin (st_house_3 s)).2.flatten) := ⟨own_step (w0 := w) O3_7.out H7.out.1 H7.out.2.1 (by decide) (by decide) p3⟩
  clear O3_7
  have O4_8 : Aside0 (x8.ownsRow w.heap.size 73 6 v4 (rdList ks_quant (st_house_4 s)).2.length (rdList ks_quant (st_house_4 s)).2.flatten) := ⟨own_step (w0 := w) O4_7.out H7.out.1 H7.out.2.1 (by decide) (by decide) p3⟩
  clear O4_7
  have O5_8 : Aside0 (x8.ownsRow w.heap.size 76 3 v5 (rdList ks_rule (st_house_5 s)).2.length (rdList ks_rule (st_house_5 s)).2.flatten) := ⟨own_step (w0 := w) O5_7.out H7.out.1 H7.out.2.1 (by decide) (by decide) p3⟩
  clear O5_7
  have O6_8 : Aside0 (x8.ownsRow w.heap.size 82 51 v6 (rdList ks_notice (st_house_6 s)).2.length (rdList ks_notice (st_house_6 s)).2.flatten) := ⟨own_step (w0 := w) O6_7.out H7.out.1 H7.out.2.1 (by decide) (by decide) p3⟩
  clear O6_7
  have O7_8 : Aside0 (x8.ownsRow w.heap.size 85 50 v7 (rdList ks_order (st_house_7 s)).2.length (rdList ks_order (st_house_7 s)).2.flatten) := ⟨own_mono p4 H7.out.2.2.size⟩
  clear p4
  clear p1 p2 p3
  go_wp2_with (fail)
  refine (list_claim_r H8.out.1 H8.out.2.1 rfl HN.out (by decide) (Nat.le_trans (st_house_8_len s) HLN.out)).mono ?_
  rintro e x9 ⟨rfl, v8, ⟨p1, p2, p4, p3⟩⟩
  rw [← st_house_9_eq] at p1
  have H9 : Aside0 (Rw wb (st_house_9 s) x9 ∧ Cs hb 37 [v0, v1, v2, v3, v4, v5, v6, v7, v8, .slice none 0 0, .slice none 0 0, .slice none 0 0, .slice none 0 0, .slice none 0 0, .int .i64 0] x9 ∧ Fr (fun i => i = wb ∨ i = hb) w x9) := ⟨p1, p2, H8.out.2.2.trans p3 fun i hi => .inl hi⟩
  have O0_9 : Aside0 (x9.ownsRow w.heap.size 59 14 v0 (rdList ks_item (st_house_0 s)).2.length (rdList ks_item (st_house_0 s)).2.flatten) := ⟨own_step (w0 := w) O0_8.out H8.out.1 H8.out.2.1 (by decide) (by decide) p3⟩
  clear O0_8
  have O1_9 : Aside0 (x9.ownsRow w.heap.size 62 3 v1 (rdList ks_lot (st_house_1 s)).2.length (rdList ks_lot (st_house_1 s)).2.flatten) := ⟨own_step (w0 := w) O1_8.out H8.out.1 H8.out.2.1 (by decide) (by decide) p3⟩
  clear O1_8
  have O2_9 : Aside0 (x9.ownsRow w.heap.size 65 2 v2 (rdList ks_zone (st_house_2 s)).2.length (rdList ks_zone (st_house_2 s)).2.flatten) := ⟨own_step (w0 := w) O2_8.out H8.out.1 H8.out.2.1 (by decide) (by decide) p3⟩
  clear O2_8
  have O3_9 : Aside0 (x9.ownsRow w.heap.size 68 8 v3 (rdList ks_bin (st_house_3 s)).2.length (rdList ks_bin (st_house_3 s)).2.flatten) := ⟨own_step (w0 := w) O3_8.out H8.out.1 H8.out.2.1 (by decide) (by decide) p3⟩
  clear O3_8
  have O4_9 : Aside0 (x9.ownsRow w.heap.size 73 6 v4 (rdList ks_quant (st_house_4 s)).2.length (rdList ks_quant (st_house_4 s)).2.flatten) := ⟨own_step (w0 := w) O4_8.out H8.out.1 H8.out.2.1 (by decide) (by decide) p3⟩
  clear O4_8
  have O5_9 : Aside0 (x9.ownsRow w.heap.size 76 3 v5 (rdList ks_rule (st_house_5 s)).2.length (rdList ks_rule (st_house_5 s)).2.flatten) := ⟨own_step (w0 := w) O5_8.out H8.out.1 H8.out.2.1 (by decide) (by decide) p3⟩
  clear O5_8
  have O6_9 : Aside0 (x9.ownsRow w.heap.size 82 51 v6 (rdList ks_notice (st_house_6 s)).2.length (rdList ks_notice (st_house_6 s)).2.flatten) := ⟨own_step (w0 := w) O6_8.out H8.out.1 H8.out.2.1 (by decide) (by decide) p3⟩
  clear O6_8
  have O7_9 : Aside0 (x9.ownsRow w.heap.size 85 50 v7 (rdList ks_order (st_house_7 s)).2.length (rdList ks_order (st_house_7 s)).2.flatten) := ⟨own_step (w0 := w) O7_8.out H8.out.1 H8.out.2.1 (by decide) (by decide) p3⟩
  clear O7_8
  have O8_9 : Aside0 (x9.ownsRow w.heap.size 88 8 v8 (rdList ks_claim (st_house_8 s)).2.length (rdList ks_claim (st_house_8 s)).2.flatten) := ⟨own_mono p4 H8.out.2.2.size⟩
  clear p4
  clear p1 p2 p3
  go_wp2_with (fail)
  refine (list_task_r H9.out.1 H9.out.2.1 rfl HN.out (by decide) (Nat.le_trans (st_house_9_len s) HLN.out)).mono ?_
  rintro e x10 ⟨rfl, v9, ⟨p1, p2, p4, p3⟩⟩
  rw [← st_house_10_eq] at p1
  have H10 : Aside0 (Rw wb (st_house_10 s) x10 ∧ Cs hb 37 [v0, v1, v2, v3, v4, v5, v6, v7, v8, v9, .slice none 0 0, .slice none 0 0, .slice none 0 0, .slice none 0 0, .int .i64 0] x10 ∧ Fr (fun i => i = wb ∨ i = hb) w x10) := ⟨p1, p2, H9.out.2.2.trans p3 fun i hi => .inl hi⟩
  have O0_10 : Aside0 (x10.ownsRow w.heap.size 59 14 v0 (rdList ks_item (st_house_0 s)).2.length (rdList ks_item (st_house_0 s)).2.flatten) := ⟨own_step (w0 := w) O0_9.out H9.out.1 H9.out.2.1 (by decide) (by decide) p3⟩
  clear O0_9
  have O1_10 : Aside0 (x10.ownsRow w.heap.size 62 3 v1 (rdList ks_lot (st_house_1 s)).2.length (rdList ks_lot (st_house_1 s)).2.flatten) := ⟨own_step (w0 := w) O1_9.out H9.out.1 H9.out.2.1 (by decide) (by decide) p3⟩
  clear O1_9
  have O2_10 : Aside0 (x10.ownsRow w.heap.size 65 2 v2 (rdList ks_zone (st_house_2 s)).2.length (rdList ks_zone (st_house_2 s)).2.flatten) := ⟨own_step (w0 := w) O2_9.out H9.out.1 H9.out.2.1 (by decide) (by decide) p3⟩
  clear O2_9
  have O3_10 : Aside0 (x10.ownsRow w.heap.size 68 8 v3 (rdList ks_bin (st_house_3 s)).2.length (rdList ks_bin (st_house_3 s)).2.flatten) := ⟨own_step (w0 := w) O3_9.out H9.out.1 H9.out.2.1 (by decide) (by decide) p3⟩
  clear O3_9
  have O4_10 : Aside0 (x10.ownsRow w.heap.size 73 6 v4 (rdList ks_quant (st_house_4 s)).2.length (rdList ks_quant (st_house_4 s)).2.flatten) := ⟨own_step (w0 := w) O4_9.out H9.out.1 H9.out.2.1 (by decide) (by decide) p3⟩
  clear O4_9
  have O5_10 : Aside0 (x10.ownsRow w.heap.size 76 3 v5 (rdList ks_rule (st_house_5 s)).2.length (rdList ks_rule (st_house_5 s)).2.flatten) := ⟨own_step (w0 := w) O5_9.out H9.out.1 H9.out.2.1 (by decide) (by decide) p3⟩
  clear O5_9
  have O6_10 : Aside0 (x10.ownsRow w.heap.size 82 51 v6 (rdList ks_notice (st_house_6 s)).2.length (rdList ks_notice (st_house_6 s)).2.flatten) := ⟨own_step (w0 := w) O6_9.out H9.out.1 H9.out.2.1 (by decide) (by decide) p3⟩
  clear O6_9
  have O7_10 : Aside0 (x10.ownsRow w.heap.size 85 50 v7 (rdList ks_order (st_house_7 s)).2.length (rdList ks_order (st_house_7 s)).2.flatten) := ⟨own_step (w0 := w) O7_9.out H9.out.1 H9.out.2.1 (by decide) (by decide) p3⟩
  clear O7_9
  have O8_10 : Aside0 (x10.ownsRow w.heap.size 88 8 v8 (rdList ks_claim (st_house_8 s)).2.length (rdList ks_claim (st_house_8 s)).2.flatten) := ⟨own_step (w0 := w) O8_9.out H9.out.1 H9.out.2.1 (by decide) (by decide) p3⟩
  clear O8_9
  have O9_10 : Aside0 (x10.ownsRow w.heap.size 91 11 v9 (rdList ks_task (st_house_9 s)).2.length (rdList ks_task (st_house_9 s)).2.flatten) := ⟨own_mono p4 H9.out.2.2.size⟩
  clear p4
  clear p1 p2 p3
  go_wp2_with (fail)
  refine (list_parcel_r H10.out.1 H10.out.2.1 rfl HN.out (by decide) (Nat.le_trans (st_house_10_len s) HLN.out)).mono ?_
  rintro e x11 ⟨rfl, v10, ⟨p1, p2, p4, p3⟩⟩
  rw [← st_house_11_eq] at p1
  have H11 : Aside0 (Rw wb (st_house_11 s) x11 ∧ Cs hb 37 [v0, v1, v2, v3, v4, v5, v6, v7, v8, v9, v10, .slice none 0 0, .slice none 0 0, .slice none 0 0, .int .i64 0] x11 ∧ Fr (fun i => i = wb ∨ i = hb) w x11) := ⟨p1, p2, H10.out.2.2.trans p3 fun i hi => .inl hi⟩
  have O0_11 : Aside0 (x11.ownsRow w.heap.size 59 14 v0 (rdList ks_item (st_house_0 s)).2.length (rdList ks_item (st_house_0 s)).2.flatten) := ⟨own_step (w0 := w) O0_10.out H10.out.1 H10.out.2.1 (by decide) (by decide) p3⟩
  clear O0_10
  have O1_11 : Aside0 (x11.ownsRow w.heap.size 62 3 v1 (rdList ks_lot (st_house_1 s)).2.length (rdList ks_lot (st_house_1 s)).2.flatten) := ⟨own_step (w0 := w) O1_10.out H10.out.1 H10.out.2.1 (by decide) (by decide) p3⟩
  clear O1_10
  have O2_11 : Aside0 (x11.ownsRow w.heap.size 65 2 v2 (rdList ks_zone (st_house_2 s)).2.length (rdList ks_zone (st_house_2 s)).2.flatten) := ⟨own_step (w0 := w) O2_10.out H10.out.1 H10.out.2.1 (by decide) (by decide) p3⟩
  clear O2_10
  have O3_11 : Aside0 (x11.ownsRow w.heap.size 68 8 v3 (rdList ks_bin (st_house_3 s)).2.length (rdList ks_bin (st_house_3 s)).2.flatten) := ⟨own_step (w0 := w) O3_10.out H10.out.1 H10.out.2.1 (by decide) (by decide) p3⟩
  clear O3_10
  have O4_11 : Aside0 (x11.ownsRow w.heap.size 73 6 v4 (rdList ks_quant (st_house_4 s)).2.length (rdList ks_quant (st_house_4 s)).2.flatten) := ⟨own_step (w0 := w) O4_10.out H10.out.1 H10.out.2.1 (by decide) (by decide) p3⟩
  clear O4_10
  have O5_11 : Aside0 (x11.ownsRow w.heap.size 76 3 v5 (rdList ks_rule (st_house_5 s)).2.length (rdList ks_rule (st_house_5 s)).2.flatten) := ⟨own_step (w0 := w) O5_10.out H10.out.1 H10.out.2.1 (by decide) (by decide) p3⟩
  clear O5_10
  have O6_11 : Aside0 (x11.ownsRow w.heap.size 82 51 v6 (rdList ks_notice (st_house_6 s)).2.length (rdList ks_notice (st_house_6 s)).2.flatten) := ⟨own_step (w0 := w) O6_10.out H10.out.1 H10.out.2.1 (by decide) (by decide) p3⟩
  clear O6_10
  have O7_11 : Aside0 (x11.ownsRow w.heap.size 85 50 v7 (rdList ks_order (st_house_7 s)).2.length (rdList ks_order (st_house_7 s)).2.flatten) := ⟨own_step (w0 := w) O7_10.out H10.out.1 H10.out.2.1 (by decide) (by decide) p3⟩
  clear O7_10
  have O8_11 : Aside0 (x11.ownsRow w.heap.size 88 8 v8 (rdList ks_claim (st_house_8 s)).2.length (rdList ks_claim (st_house_8 s)).2.flatten) := ⟨own_step (w0 := w) O8_10.out H10.out.1 H10.out.2.1 (by decide) (by decide) p3⟩
  clear O8_10
  have O9_11 : Aside0 (x11.ownsRow w.heap.size 91 11 v9 (rdList ks_task (st_house_9 s)).2.length (rdList ks_task (st_house_9 s)).2.flatten) := ⟨own_step (w0 := w) O9_10.out H10.out.1 H10.out.2.1 (by decide) (by decide) p3⟩
  clear O9_10
  have O10_11 : Aside0 (x11.ownsRow w.heap.size 94 2 v10 (rdList ks_parcel (st_house_10 s)).2.length (rdList ks_parcel (st_house_10 s)).2.flatten) := ⟨own_mono p4 H10.out.2.2.size⟩
  clear p4
  clear p1 p2 p3
  go_wp2_with (fail)
  refine (list_sent_r H11.out.1 H11.out.2.1 rfl HN.out (by decide) (Nat.le_trans (st_house_11_len s) HLN.out)).mono ?_
  rintro e x12 ⟨rfl, v11, ⟨p1, p2, p4, p3⟩⟩
  rw [← st_house_12_eq] at p1
  have H12 : Aside0 (Rw wb (st_house_12 s) x12 ∧ Cs hb 37 [v0, v1, v2, v3, v4, v5, v6, v7, v8, v9, v10, v11, .slice none 0 0, .slice none 0 0, .int .i64 0] x12 ∧ Fr (fun i => i = wb ∨ i = hb) w x12) := ⟨p1, p2, H11.out.2.2.trans p3 fun i hi => .inl hi⟩
  have O0_12 : Aside0 (x12.ownsRow w.heap.size 59 14 v0 (rdList ks_item (st_house_0 s)).2.length (rdList ks_item (st_house_0 s)).2.flatten) := ⟨own_step (w0 := w) O0_11.out H11.out.1 H11.out.2.1 (by decide) (by decide) p3⟩
  clear O0_11
  have O1_12 : Aside0 (x12.ownsRow w.heap.size 62 3 v1 (rdList ks_lot (st_house_1 s)).2.length (rdList ks_lot (st_house_1 s)).2.flatten) := ⟨own_step (w0 := w) O1_11.out H11.out.1 H11.out.2.1 (by decide) (by decide) p3⟩
  clear O1_11
  have O2_12 : Aside0 (x12.ownsRow w.heap.size 65 2 v2 (rdList ks_zone (st_house_2 s)).2.length (rdList ks_zone (st_house_2 s)).2.flatten) := ⟨own_step (w0 := w) O2_11.out H11.out.1 H11.out.2.1 (by decide) (by decide) p3⟩
  clear O2_11
  have O3_12 : Aside0 (x12.ownsRow w.heap.size 68 8 v3 (rdList ks_bin (st_house_3 s)).2.length (rdList ks_bin (st_house_3 s)).2.flatten) := ⟨own_step (w0 := w) O3_11.out H11.out.1 H11.out.2.1 (by decide) (by decide) p3⟩
  clear O3_11
  have O4_12 : Aside0 (x12.ownsRow w.heap.size 73 6 v4 (rdList ks_quant (st_house_4 s)).2.length (rdList ks_quant (st_house_4 s)).2.flatten) := ⟨own_step (w0 := w) O4_11.out H11.out.1 H11.out.2.1 (by decide) (by decide) p3⟩
  clear O4_11
  have O5_12 : Aside0 (x12.ownsRow w.heap.size 76 3 v5 (rdList ks_rule (st_house_5 s)).2.length (rdList ks_rule (st_house_5 s)).2.flatten) := ⟨own_step (w0 := w) O5_11.out H11.out.1 H11.out.2.1 (by decide) (by decide) p3⟩
  clear O5_11
  have O6_12 : Aside0 (x12.ownsRow w.heap.size 82 51 v6 (rdList ks_notice (st_house_6 s)).2.length (rdList ks_notice (st_house_6 s)).2.flatten) := ⟨own_step (w0 := w) O6_11.out H11.out.1 H11.out.2.1 (by decide) (by decide) p3⟩
  clear O6_11
  have O7_12 : Aside0 (x12.ownsRow w.heap.size 85 50 v7 (rdList ks_order (st_house_7 s)).2.length (rdList ks_order (st_house_7 s)).2.flatten) := ⟨own_step (w0 := w) O7_11.out H11.out.1 H11.out.2.1 (by decide) (by decide) p3⟩
  clear O7_11
  have O8_12 : Aside0 (x12.ownsRow w.heap.size 88 8 v8 (rdList ks_claim (st_house_8 s)).2.length (rdList ks_claim (st_house_8 s)).2.flatten) := ⟨own_step (w0 := w) O8_11.out H11.out.1 H11.out.2.1 (by decide) (by decide) p3⟩
  clear O8_11
  have O9_12 : Aside0 (x12.ownsRow w.heap.size 91 11 v9 (rdList ks_task (st_house_9 s)).2.length (rdList ks_task (st_house_9 s)).2.flatten) := ⟨own_step (w0 := w) O9_11.out H11.out.1 H11.out.2.1 (by decide) (by decide) p3⟩
  clear O9_11
  have O10_12 : Aside0 (x12.ownsRow w.heap.size 94 2 v10 (rdList ks_parcel (st_house_10 s)).2.length (rdList ks_parcel (st_house_10 s)).2.flatten) := ⟨own_step (w0 := w) O10_11.out H11.out.1 H11.out.2.1 (by decide) (by decide) p3⟩
  clear O10_11
  have O11_12 : Aside0 (x12.ownsRow w.heap.size 97 5 v11 (rdList ks_sent (st_house_11 s)).2.length (rdList ks_sent (st_house_11 s)).2.flatten) := ⟨own_mono p4 H11.out.2.2.size⟩
  clear p4
  clear p1 p2 p3
  go_wp2_with (fail)
  refine (list_counted_r H12.out.1 H12.out.2.1 rfl HN.out (by decide) (Nat.le_trans (st_house_12_len s) HLN.out)).mono ?_
  rintro e x13 ⟨rfl, v12, ⟨p1, p2, p4, p3⟩⟩
  rw [← st_house_13_eq] at p1
  have H13 : Aside0 (Rw wb (st_house_13 s) x13 ∧ Cs hb 37 [v0, v1, v2, v3, v4, v5, v6, v7, v8, v9, v10, v11, v12, .slice none 0 0, .int .i64 0] x13 ∧ Fr (fun i => i = wb ∨ i = hb) w x13) := ⟨p1, p2, H12.out.2.2.trans p3 fun i hi => .inl hi⟩
  have O0_13 : Aside0 (x13.ownsRow w.heap.size 59 14 v0 (rdList ks_item (st_house_0 s)).2.length (rdList ks_item (st_house_0 s)).2.flatten) := ⟨own_step (w0 := w) O0_12.out H12.out.1 H12.out.2.1 (by decide) (by decide) p3⟩
  clear O0_12
  have O1_13 : Aside0 (x13.ownsRow w.heap.size 62 3 v1 (rdList ks_lot (st_house_1 s)).2.length (rdList ks_lot (st_house_1 s)).2.flatten) := ⟨own_step (w0 := w) O1_12.out H12.out.1 H12.out.2.1 (by decide) (by decide) p3⟩
  clear O1_12
  have O2_13 : Aside0 (x13.ownsRow w.heap.size 65 2 v2 (rdList ks_zone (st_house_2 s)).2.length (rdList ks_zone (st_house_2 s)).2.flatten) := ⟨own_step (w0 := w) O2_12.out H12.out.1 H12.out.2.1 (by decide) (by decide) p3⟩
  clear O2_12
  have O3_13 : Aside0 (x13.ownsRow w.heap.size 68 8 v3 (rdList ks_bin (st_house_3 s)).2.length (rdList ks_bin (st_house_3 s)).2.flatten) := ⟨own_step (w0 := w) O3_12.out H12.out.1 H12.out.2.1 (by decide) (by decide) p3⟩
  clear O3_12
  have O4_13 : Aside0 (x13.ownsRow w.heap.size 73 6 v4 (rdList ks_quant (st_house_4 s)).2.length (rdList ks_quant (st_house_4 s)).2.flatten) := ⟨own_step (w0 := w) O4_12.out H12.out.1 H12.out.2.1 (by decide) (by decide) p3⟩
  clear O4_12
  have O5_13 : Aside0 (x13.ownsRow w.heap.size 76 3 v5 (rdList ks_rule (st_house_5 s)).2.length (rdList ks_rule (st_house_5 s)).2.flatten) := ⟨own_step (w0 := w) O5_12.out H12.out.1 H12.out.2.1 (by decide) (by decide) p3⟩
  clear O5_12
  have O6_13 : Aside0 (x13.ownsRow w.heap.size 82 51 v6 (rdList ks_notice (st_house_6 s)).2.length (rdList ks_notice (st_house_6 s)).2.flatten) := ⟨own_step (w0 := w) O6_12.out H12.out.1 H12.out.2.1 (by decide) (by decide) p3⟩
  clear O6_12
  have O7_13 : Aside0 (x13.ownsRow w.heap.size 85 50 v7 (rdList ks_order (st_house_7 s)).2.length (rdList ks_order (st_house_7 s)).2.flatten) := ⟨own_step (w0 := w) O7_12.out H12.out.1 H12.out.2.1 (by decide) (by decide) p3⟩
  clear O7_12
  have O8_13 : Aside0 (x13.ownsRow w.heap.size 88 8 v8 (rdList ks_claim (st_house_8 s)).2.length (rdList ks_claim (st_house_8 s)).2.flatten) := ⟨own_step (w0 := w) O8_12.out H12.out.1 H12.out.2.1 (by decide) (by decide) p3⟩
  clear O8_12
  have O9_13 : Aside0 (x13.ownsRow w.heap.size 91 11 v9 (rdList ks_task (st_house_9 s)).2.length (rdList ks_task (st_house_9 s)).2.flatten) := ⟨own_step (w0 := w) O9_12.out H12.out.1 H12.out.2.1 (by decide) (by decide) p3⟩
  clear O9_12
  have O10_13 : Aside0 (x13.ownsRow w.heap.size 94 2 v10 (rdList ks_parcel (st_house_10 s)).2.length (rdList ks_parcel (st_house_10 s)).2.flatten) := ⟨own_step (w0 := w) O10_12.out H12.out.1 H12.out.2.1 (by decide) (by decide) p3⟩
  clear O10_12
  have O11_13 : Aside0 (x13.ownsRow w.heap.size 97 5 v11 (rdList ks_sent (st_house_11 s)).2.length (rdList ks_sent (st_house_11 s)).2.flatten) := ⟨own_step (w0 := w) O11_12.out H12.out.1 H12.out.2.1 (by decide) (by decide) p3⟩
  clear O11_12
  have O12_13 : Aside0 (x13.ownsRow w.heap.size 100 5 v12 (rdList ks_counted (st_house_12 s)).2.length (rdList ks_counted (st_house_12 s)).2.flatten) := ⟨own_mono p4 H12.out.2.2.size⟩
  clear p4
  clear p1 p2 p3
  go_wp2_with (fail)
  refine (list_total_r H13.out.1 H13.out.2.1 rfl HN.out (by decide) (Nat.le_trans (st_house_13_len s) HLN.out)).mono ?_
  rintro e x14 ⟨rfl, v13, ⟨p1, p2, p4, p3⟩⟩
  rw [← st_house_14_eq] at p1
  have H14 : Aside0 (Rw wb (st_house_14 s) x14 ∧ Cs hb 37 [v0, v1, v2, v3, v4, v5, v6, v7, v8, v9, v10, v11, v12, v13, .int .i64 0] x14 ∧ Fr (fun i => i = wb ∨ i = hb) w x14) := ⟨p1, p2, H13.out.2.2.trans p3 fun i hi => .inl hi⟩
  have O0_14 : Aside0 (x14.ownsRow w.heap.size 59 14 v0 (rdList ks_item (st_house_0 s)).2.length (rdList ks_item (st_house_0 s)).2.flatten) := ⟨own_step (w0 := w) O0_13.out H13.out.1 H13.out.2.1 (by decide) (by decide) p3⟩
  clear O0_13
  have O1_14 : Aside0 (x14.ownsRow w.heap.size 62 3 v1 (rdList ks_lot (st_house_1 s)).2.length (rdList ks_lot (st_house_1 s)).2.flatten) := ⟨own_step (w0 := w) O1_13.out H13.out.1 H13.out.2.1 (by decide) (by decide) p3⟩
  clear O1_13
  have O2_14 : Aside0 (x14.ownsRow w.heap.size 65 2 v2 (rdList ks_zone (st_house_2 s)).2.length (rdList ks_zone (st_house_2 s)).2.flatten) := ⟨own_step (w0 := w) O2_13.out H13.out.1 H13.out.2.1 (by decide) (by decide) p3⟩
  clear O2_13
  have O3_14 : Aside0 (x14.ownsRow w.heap.size 68 8 v3 (rdList ks_bin (st_house_3 s)).2.length (rdList ks_bin (st_house_3 s)).2.flatten) := ⟨own_step (w0 := w) O3_13.out H13.out.1 H13.out.2.1 (by decide) (by decide) p3⟩
  clear O3_13
  have O4_14 : Aside0 (x14.ownsRow w.heap.size 73 6 v4 (rdList ks_quant (st_house_4 s)).2.length (rdList ks_quant (st_house_4 s)).2.flatten) := ⟨own_step (w0 := w) O4_13.out H13.out.1 H13.out.2.1 (by decide) (by decide) p3⟩
  clear O4_13
  have O5_14 : Aside0 (x14.ownsRow w.heap.size 76 3 v5 (rdList ks_rule (st_house_5 s)).2.length (rdList ks_rule (st_house_5 s)).2.flatten) := ⟨own_step (w0 := w) O5_13.out H13.out.1 H13.out.2.1 (by decide) (by decide) p3⟩
  clear O5_13
  have O6_14 : Aside0 (x14.ownsRow w.heap.size 82 51 v6 (rdList ks_notice (st_house_6 s)).2.length (rdList ks_notice (st_house_6 s)).2.flatten) := ⟨own_step (w0 := w) O6_13.out H13.out.1 H13.out.2.1 (by decide) (by decide) p3⟩
  clear O6_13
  have O7_14 : Aside0 (x14.ownsRow w.heap.size 85 50 v7 (rdList ks_order (st_house_7 s)).2.length (rdList ks_order (st_house_7 s)).2.flatten) := ⟨own_step (w0 := w) O7_13.out H13.out.1 H13.out.2.1 (by decide) (by decide) p3⟩
  clear O7_13
  have O8_14 : Aside0 (x14.ownsRow w.heap.size 88 8 v8 (rdList ks_claim (st_house_8 s)).2.length (rdList ks_claim (st_house_8 s)).2.flatten) := ⟨own_step (w0 := w) O8_13.out H13.out.1 H13.out.2.1 (by decide) (by decide) p3⟩
  clear O8_13
  have O9_14 : Aside0 (x14.ownsRow w.heap.size 91 11 v9 (rdList ks_task (st_house_9 s)).2.length (rdList ks_task (st_house_9 s)).2.flatten) := ⟨own_step (w0 := w) O9_13.out H13.out.1 H13.out.2.1 (by decide) (by decide) p3⟩
  clear O9_13
  have O10_14 : Aside0 (x14.ownsRow w.heap.size 94 2 v10 (rdList ks_parcel (st_house_10 s)).2.length (rdList ks_parcel (st_house_10 s)).2.flatten) := ⟨own_step (w0 := w) O10_13.out H13.out.1 H13.out.2.1 (by decide) (by decide) p3⟩
  clear O10_13
  have O11_14 : Aside0 (x14.ownsRow w.heap.size 97 5 v11 (rdList ks_sent (st_house_11 s)).2.length (rdList ks_sent (st_house_11 s)).2.flatten) := ⟨own_step (w0 := w) O11_13.out H13.out.1 H13.out.2.1 (by decide) (by decide) p3⟩
  clear O11_13
  have O12_14 : Aside0 (x14.ownsRow w.heap.size 100 5 v12 (rdList ks_counted (st_house_12 s)).2.length (rdList ks_counted (st_house_12 s)).2.flatten) := ⟨own_step (w0 := w) O12_13.out H13.out.1 H13.out.2.1 (by decide) (by decide) p3⟩
  clear O12_13
  have O13_14 : Aside0 (x14.ownsRow w.heap.size 103 6 v13 (rdList ks_total (st_house_13 s)).2.length (rdList ks_total (st_house_13 s)).2.flatten) := ⟨own_mono p4 H13.out.2.2.size⟩
  clear p4
  clear p1 p2 p3
  go_wp2_with (fail)
  have E14 : Aside0 (rdAt (at_ .n [14]) (st_house_14 s, [v0, v1, v2, v3, v4, v5, v6, v7, v8, v9, v10, v11, v12, v13, .int .i64 0]) = (st_house_15 s, ([v0, v1, v2, v3, v4, v5, v6, v7, v8, v9, v10, v11, v12, v13, .int .i64 0] : List Value).set 14 (.int .i64 (unfoldN (takeN (st_house_14 s)).1)))) := ⟨by rw [st_house_15_eq]; rfl⟩
  refine (nums_rc (alloc_below _ _) [14] (cs_alloc _ _ _ _ rfl) H14.out.1 H14.out.2.1 HN.out rfl (by simp) (Nat.le_trans (Nat.le_trans (st_house_14_len s) HLN.out) (by decide)) (by decide)).mono ?_
  rintro e x15 ⟨rfl, p1, p2, p3⟩
  rw [E14.out] at p1 p2
  have H15 : Aside0 (Rw wb (st_house_15 s) x15 ∧ Cs hb 37 [v0, v1, v2, v3, v4, v5, v6, v7, v8, v9, v10, v11, v12, v13, .int .i64 (unfoldN (takeN (st_house_14 s)).1)] x15 ∧ Fr (fun i => i = wb ∨ i = hb) w x15) := ⟨p1, p2, H14.out.2.2.trans p3 fun i hi => .inl hi⟩
  have O0_15 : Aside0 (x15.ownsRow w.heap.size 59 14 v0 (rdList ks_item (st_house_0 s)).2.length (rdList ks_item (st_house_0 s)).2.flatten) := ⟨own_step (w0 := w) O0_14.out H14.out.1 H14.out.2.1 (by decide) (by decide) p3⟩
  clear O0_14
  have O1_15 : Aside0 (x15.ownsRow w.heap.size 62 3 v1 (rdList ks_lot (st_house_1 s)).2.length (rdList ks_lot (st_house_1 s)).2.flatten) := ⟨own_step (w0 := w) O1_14.out H14.out.1 H14.out.2.1 (by decide) (by decide) p3⟩
  clear O1_14
  have O2_15 : Aside0 (x15.ownsRow w.heap.size 65 2 v2 (rdList ks_zone (st_house_2 s)).2.length (rdList ks_zone (st_house_2 s)).2.flatten) := ⟨own_step (w0 := w) O2_14.out H14.out.1 H14.out.2.1 (by decide) (by decide) p3⟩
  clear O2_14
  have O3_15 : Aside0 (x15.ownsRow w.heap.size 68 8 v3 (rdList ks_bin (st_house_3 s)).2.length (rdList ks_bin (st_house_3 s)).2.flatten) := ⟨own_step (w0 := w) O3_14.out H14.out.1 H14.out.2.1 (by decide) (by decide) p3⟩
  clear O3_14
  have O4_15 : Aside0 (x15.ownsRow w.heap.size 73 6 v4 (rdList ks_quant (st_house_4 s)).2.length (rdList ks_quant (st_house_4 s)).2.flatten) := ⟨own_step (w0 := w) O4_14.out H14.out.1 H14.out.2.1 (by decide) (by decide) p3⟩
  clear O4_14
  have O5_15 : Aside0 (x15.ownsRow w.heap.size 76 3 v5 (rdList ks_rule (st_house_5 s)).2.length (rdList ks_rule (st_house_5 s)).2.flatten) := ⟨own_step (w0 := w) O5_14.out H14.out.1 H14.out.2.1 (by decide) (by decide) p3⟩
  clear O5_14
  have O6_15 : Aside0 (x15.ownsRow w.heap.size 82 51 v6 (rdList ks_notice (st_house_6 s)).2.length (rdList ks_notice (st_house_6 s)).2.flatten) := ⟨own_step (w0 := w) O6_14.out H14.out.1 H14.out.2.1 (by decide) (by decide) p3⟩
  clear O6_14
  have O7_15 : Aside0 (x15.ownsRow w.heap.size 85 50 v7 (rdList ks_order (st_house_7 s)).2.length (rdList ks_order (st_house_7 s)).2.flatten) := ⟨own_step (w0 := w) O7_14.out H14.out.1 H14.out.2.1 (by decide) (by decide) p3⟩
  clear O7_14
  have O8_15 : Aside0 (x15.ownsRow w.heap.size 88 8 v8 (rdList ks_claim (st_house_8 s)).2.length (rdList ks_claim (st_house_8 s)).2.flatten) := ⟨own_step (w0 := w) O8_14.out H14.out.1 H14.out.2.1 (by decide) (by decide) p3⟩
  clear O8_14
  have O9_15 : Aside0 (x15.ownsRow w.heap.size 91 11 v9 (rdList ks_task (st_house_9 s)).2.length (rdList ks_task (st_house_9 s)).2.flatten) := ⟨own_step (w0 := w) O9_14.out H14.out.1 H14.out.2.1 (by decide) (by decide) p3⟩
  clear O9_14
  have O10_15 : Aside0 (x15.ownsRow w.heap.size 94 2 v10 (rdList ks_parcel (st_house_10 s)).2.length (rdList ks_parcel (st_house_10 s)).2.flatten) := ⟨own_step (w0 := w) O10_14.out H14.out.1 H14.out.2.1 (by decide) (by decide) p3⟩
  clear O10_14
  have O11_15 : Aside0 (x15.ownsRow w.heap.size 97 5 v11 (rdList ks_sent (st_house_11 s)).2.length (rdList ks_sent (st_house_11 s)).2.flatten) := ⟨own_step (w0 := w) O11_14.out H14.out.1 H14.out.2.1 (by decide) (by decide) p3⟩
  clear O11_14
  have O12_15 : Aside0 (x15.ownsRow w.heap.size 100 5 v12 (rdList ks_counted (st_house_12 s)).2.length (rdList ks_counted (st_house_12 s)).2.flatten) := ⟨own_step (w0 := w) O12_14.out H14.out.1 H14.out.2.1 (by decide) (by decide) p3⟩
  clear O12_14
  have O13_15 : Aside0 (x15.ownsRow w.heap.size 103 6 v13 (rdList ks_total (st_house_13 s)).2.length (rdList ks_total (st_house_13 s)).2.flatten) := ⟨own_step (w0 := w) O13_14.out H14.out.1 H14.out.2.1 (by decide) (by decide) p3⟩
  clear O13_14
  clear p1 p2 p3
  go_wp2
  go_end0
  exact ⟨rfl, _, rfl, H15.out.1, H15.out.2.1, H15.out.2.2, ⟨trivial, ⟨v0, rfl, O0_15.out⟩, ⟨v1, rfl, O1_15.out⟩, ⟨v2, rfl, O2_15.out⟩, ⟨v3, rfl, O3_15.out⟩, ⟨v4, rfl, O4_15.out⟩, ⟨v5, rfl, O5_15.out⟩, ⟨v6, rfl, O6_15.out⟩, ⟨v7, rfl, O7_15.out⟩, ⟨v8, rfl, O8_15.out⟩, ⟨v9, rfl, O9_15.out⟩, ⟨v10, rfl, O10_15.out⟩, ⟨v11, rfl, O11_15.out⟩, ⟨v12, rfl, O12_15.out⟩, ⟨v13, rfl, O13_15.out⟩, rfl⟩⟩
end Go.Proofs.YtgdoodeibcfcjaaGreat.Wire
