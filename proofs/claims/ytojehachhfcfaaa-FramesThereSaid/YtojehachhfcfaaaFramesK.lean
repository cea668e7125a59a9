/- The chapter's examples of frames, and what a list that is no whole frame joins to. -/
import Derived.Test.YtojehachhfcfaaaFramesJ
import Derived.Test.YtojehachhfcfaaaPrint4
set_option linter.unusedVariables false
set_option linter.unusedSimpArgs false
namespace Go.Proofs.Ytojehachhfcfaaa.FramesPure
open Go.RowKit Go.Proofs.Ytojehachhfcfaaa.SumPure Go.Proofs.Ytojehachhfcfaaa.Arr Go.Proofs.Ytojehachhfcfaaa.Sect Go.Proofs.Ytojehachhfcfaaa.Print Go.Proofs.YtojehachhfcfaaaW.PrintWords Go.Proofs.YtojehachhfcfaaaW.PrintLast Go.Proofs.YtojehachhfcfaaaW.PrintMore

theorem sec_get (n : Int) (D : List UInt8) (j : Nat) (h : j < cnt D.length) : (secs n D)[j]? = some (secAt n D (cnt D.length) j) := by
  unfold secs
  rw [List.getElem?_map, List.getElem?_range h]; rfl
theorem sec_same {n n' : Int} {D D' : List UInt8} (h : okLay n D) (h' : okLay n' D') {j : Nat} (hj : j < cnt D.length) (hj' : j < cnt D'.length) (e : (secs n D)[j]? = (secs n' D')[j]?) : n = n' ∧ cnt D.length = cnt D'.length := by
  rw [sec_get n D j hj, sec_get n' D' j hj'] at e
  have e1 := Option.some.inj e
  have t1 := tell_sec h hj
  rw [e1, tell_sec h' hj'] at t1
  have := Option.some.inj t1
  simp only [Prod.mk.injEq] at this
  exact ⟨this.1.symm, by have := this.2.2.1; omega⟩
/-- What begins like one frame's sectors joins to that number and count, or not at all. -/
theorem join_first {n : Int} {D : List UInt8} (h : okLay n D) {ss : List ByteArray} (h0 : ss[0]? = (secs n D)[0]?) :
    joinP ss = (0, ⟨#[]⟩, 0, 43) ∨ ∃ D', okLay n D' ∧ cnt D'.length = cnt D.length ∧ secs n D' = ss.take (cnt D.length) ∧ cnt D.length ≤ ss.length := by
  rcases join_back ss with hj | ⟨n', D', hok, hsec, hle, hj⟩
  · exact .inl hj
  · right
    have c1 := cnt_pos D.length
    have c2 := cnt_pos D'.length
    have e : (secs n D)[0]? = (secs n' D')[0]? := by rw [hsec, List.getElem?_take_of_lt (by omega), h0]
    obtain ⟨rfl, hc⟩ := sec_same h hok (by omega) (by omega) e
    exact ⟨D', hok, hc.symm, by rw [hc]; exact hsec, by omega⟩
theorem join_short {n : Int} {D : List UInt8} (h : okLay n D) {i : Nat} (hi : i < cnt D.length) : joinP ((secs n D).take i) = (0, ⟨#[]⟩, 0, 43) := by
  rcases Nat.eq_zero_or_pos i with h0 | h0
  · subst h0; rfl
  rcases join_first h (ss := (secs n D).take i) (by rw [List.getElem?_take_of_lt h0]) with hj | ⟨D', _, _, _, hle⟩
  · exact hj
  · rw [List.length_take] at hle; omega
theorem join_torn {n n' : Int} {D D' : List UInt8} (h : okLay n D) (h' : okLay n' D') {m : Nat} (m1 : 1 ≤ m) (m2 : m < cnt D.length) (m3 : m < cnt D'.length) (hne : ¬(n = n' ∧ cnt D.length = cnt D'.length)) :
    joinP ((secs n D).take m ++ (secs n' D').drop m) = (0, ⟨#[]⟩, 0, 43) := by
  have hl : ((secs n D).take m).length = m := by rw [List.length_take, secs_len]; omega
  rcases join_first h (ss := (secs n D).take m ++ (secs n' D').drop m) (by rw [List.getElem?_append_left (by omega), List.getElem?_take_of_lt (by omega)]) with hj | ⟨D'', hok, hc, hsec, hle⟩
  · exact hj
  · exfalso
    have e : (secs n D'')[m]? = (secs n' D')[m]? := by
      rw [hsec, List.getElem?_take_of_lt (by omega), List.getElem?_append_right (by omega), hl, List.getElem?_drop]; simp
    obtain ⟨a, b⟩ := sec_same hok h' (by omega) m3 e
    exact hne ⟨a, by omega⟩

theorem zeros_at (n : Nat) (h : n ≤ 1000) : stevedorelaw04_zeros.f (n : Int) = some ⟨(List.replicate n (0 : UInt8)).toArray⟩ := by
  unfold stevedorelaw04_zeros.f
  rw [if_pos (by omega), if_pos (by omega), Int.toNat_natCast]
  congr 1
  rw [← str_ints]
  congr 1
  simp [ints]
theorem awake_at {k : Nat} (hk : 60 ≤ k) : stevedorelaw04_awake.f k = some true := by
  obtain ⟨k, rfl⟩ : ∃ m, k = m + 1 := ⟨k - 1, by omega⟩
  unfold stevedorelaw04_awake.f
  have z1 : stevedorelaw04_zeros.f 56 = some ⟨(List.replicate 56 (0 : UInt8)).toArray⟩ := zeros_at 56 (by omega)
  have z2 : stevedorelaw04_zeros.f 441 = some ⟨(List.replicate 441 (0 : UInt8)).toArray⟩ := zeros_at 441 (by omega)
  have o1 : okLay 1 [97, 98] := by unfold okLay; simp
  have o2 : okLay 2 (List.replicate 56 (0 : UInt8)) := by unfold okLay; rw [List.length_replicate]; omega
  have l1 : frames_Lay.f (k + 1) 1 (⟨#[97, 98]⟩ : ByteArray) = some (secs 1 [97, 98], 0) := by
    rw [Lay_at _ _ (by decide) (by omega)]
    show some (layP 1 [97, 98]) = _
    unfold layP; rw [if_pos o1]
  have l2 : frames_Lay.f (k + 1) 2 ⟨(List.replicate 56 (0 : UInt8)).toArray⟩ = some (secs 2 (List.replicate 56 (0 : UInt8)), 0) := by
    rw [Lay_at _ _ (by rw [size_mk, List.length_replicate]; omega) (by omega)]
    unfold layP; rw [if_pos o2]
  have l3 : frames_Lay.f (k + 1) 0 (⟨#[]⟩ : ByteArray) = some ([], 43) := by
    rw [Lay_at _ _ (by decide) (by omega)]
    unfold layP; rw [if_neg (by unfold okLay; omega)]
  have l4 : frames_Lay.f (k + 1) 1 ⟨(List.replicate 441 (0 : UInt8)).toArray⟩ = some ([], 43) := by
    rw [Lay_at _ _ (by rw [size_mk, List.length_replicate]; omega) (by omega)]
    unfold layP
    rw [if_neg (by
      rintro ⟨_, _, h⟩
      rw [show (⟨(List.replicate 441 (0 : UInt8)).toArray⟩ : ByteArray).data.toList = List.replicate 441 (0 : UInt8) from by simp, List.length_replicate] at h
      omega)]
  have c1 : cnt ([97, 98] : List UInt8).length = 1 := rfl
  have c2 : cnt (List.replicate 56 (0 : UInt8)).length = 2 := by rw [List.length_replicate]; rfl
  have s1 := secs_len 1 [97, 98]
  have s2 := secs_len 2 (List.replicate 56 (0 : UInt8))
  rw [c1] at s1
  rw [c2] at s2
  have g1 : rdOf ByteArray.empty (secs 1 [97, 98]) 0 = secAt 1 [97, 98] 1 0 := rd_at _ _ 0 _ (sec_get 1 [97, 98] 0 (by decide))
  have g2 : rdOf ByteArray.empty (secs 2 (List.replicate 56 (0 : UInt8))) 0 = secAt 2 (List.replicate 56 (0 : UInt8)) 2 0 := by
    have := rd_at ByteArray.empty _ 0 _ (sec_get 2 (List.replicate 56 (0 : UInt8)) 0 (by rw [c2]; omega))
    rw [c2] at this
    exact this
  have j1 : joinP [secAt 2 (List.replicate 56 (0 : UInt8)) 2 0] = (0, ⟨#[]⟩, 0, 43) := by
    have := join_short o2 (i := 1) (by rw [c2]; omega)
    rw [show (secs 2 (List.replicate 56 (0 : UInt8))).take 1 = [secAt 2 (List.replicate 56 (0 : UInt8)) 2 0] from by unfold secs; rw [c2]; rfl] at this
    exact this
  have j2 : joinP [secAt 1 [97, 98] 1 0, (⟨#[120]⟩ : ByteArray)] = (1, ⟨#[97, 98]⟩, 1, 0) := join_secs o1 [(⟨#[120]⟩ : ByteArray)]
  rw [l1, z1, z2, l3]
  simp only [Option.bind_some]
  rw [l2, l4]
  simp only [Option.bind_some, if_true]
  rw [s1, s2]
  rw [if_pos (by decide)]
  simp only [stevedorelaw04_awake.j0]
  rw [if_neg (by decide), s1, s2, g1, g2, if_pos (by decide), Join_at _ (by simp) (by omega), j1, Option.bind_some, if_pos (by decide), Join_at _ (by simp) (by omega), j2, Option.bind_some]
  have h64 : (secAt 1 [97, 98] 1 0).size = 64 := by
    unfold secAt; rw [size_mk]; exact sect_len _ _ _ _ (by decide)
  rw [h64, if_pos (by decide), if_pos (by decide), if_pos (by decide)]
  have e9 : ((secAt 1 [97, 98] 1 0).extract 0 9).toList = ([0, 0, 0, 1, 0, 1, 2, 97, 98] : List UInt8) := by
    rw [extract_mid, ByteArray.toList_eq]
    show List.take 9 (List.drop 0 (sect 1 0 1 (chunk [97, 98] 0))) = _
    rw [show chunk [97, 98] 0 = [97, 98] from rfl]
    simp only [sect, body, head, List.cons_append, List.nil_append, List.drop_zero, List.take_succ_cons, List.take_zero]
    decide
  rw [if_pos e9]
  rw [if_pos (by decide), if_pos (by decide), if_pos (by decide), if_pos (by simp [ByteArray.toList_eq])]
  rfl
end Go.Proofs.Ytojehachhfcfaaa.FramesPure
