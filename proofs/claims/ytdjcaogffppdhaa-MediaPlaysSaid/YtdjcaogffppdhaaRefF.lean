/- The reference's media: which files there are. -/
import Derived.Test.YtdjcaogffppdhaaRefR
set_option linter.unusedVariables false
set_option linter.unusedSimpArgs false
namespace Go.Proofs.Ytdjcaogffppdhaa.Ref
open Go.RowKit Go.Proofs.Ytdjcaogffppdhaa.SumPure Go.Proofs.YtdjcaogffppdhaaW.PrintWords Go.Proofs.YtdjcaogffppdhaaW.PrintLast Go.Proofs.YtdjcaogffppdhaaW.PrintMore Go.Proofs.Ytdjcaogffppdhaa.App
attribute [local go_sem] max2_int min2_int max_two min_two
theorem ins_at (f : Int) : ∀ (l : List Int) (k : Nat), k ≤ l.length → (∀ j, j < k → l.getD j 0 < f) → (k = l.length ∨ k < l.length ∧ ¬ l.getD k 0 < f) → ins f l = if k < l.length ∧ l.getD k 0 = f then l else l.take k ++ ([f] ++ l.drop k) := by
  intro l
  induction l with
  | nil =>
    intro k hk _ _
    obtain rfl : k = 0 := by simpa using hk
    simp [ins]
  | cons x l ih =>
    intro k hk h1 h2
    cases k with
    | zero =>
      rcases h2 with h2 | ⟨_, h2⟩
      · simp at h2
      · simp only [List.getD_cons_zero] at h2
        unfold ins
        rw [if_neg h2]
        by_cases e : x = f
        · rw [if_pos e, if_pos ⟨by simp, by simp [e]⟩]
        · rw [if_neg e, if_neg (fun k => e (by simpa using k.2))]
          simp
    | succ k =>
      have hx := h1 0 (by omega)
      simp only [List.getD_cons_zero] at hx
      unfold ins
      rw [if_pos hx, ih k (by simpa using hk) (fun j hj => by simpa using h1 (j + 1) (by omega)) (by simpa using h2)]
      by_cases hc : k < l.length ∧ l.getD k 0 = f
      · rw [if_pos hc, if_pos (by simpa using hc)]
      · rw [if_neg hc, if_neg (by simpa using hc)]
        simp
theorem ins_len (f : Int) (l : List Int) : (ins f l).length ≤ l.length + 1 := by
  induction l with
  | nil => simp [ins]
  | cons x l ih => unfold ins; split; (· simp; omega); split <;> simp
theorem files_len (l : List Item) : (filesL l).length ≤ l.length := by
  have key : ∀ (l : List Item) (o : List Int), (l.foldl (fun out x => ins x.1 out) o).length ≤ o.length + l.length := by
    intro l
    induction l with
    | nil => intro o; simp
    | cons x l ih => intro o; have := ih (ins x.1 o); have := ins_len x.1 o; simp only [List.foldl_cons, List.length_cons]; omega
  have := key l []
  unfold filesL; simpa using this
theorem intInfo : (Try.prog.info? 3).map (fun i => (i.zero, i.size, i.bytes)) = some (some (.int .i64 0), 1, 8) := by kernel_rfl
theorem one_ints (l : List Int) : ∀ u ∈ l.map (Value.int .i64), u.oneCell' = true := fun u hu => by
  obtain ⟨x, _, rfl⟩ := List.mem_map.1 hu
  rfl
theorem files_snoc {l : List Item} {i : Nat} {x : Item} (hx : l[i]? = some x) : filesL (l.take (i + 1)) = ins x.1 (filesL (l.take i)) := fold_snoc _ _ hx
theorem cell_of_reads {w : World} {B : Nat} {A : Option Addr} {l : List Int} (h : Reads w B A l.length (l.map (Value.int .i64))) {k : Nat} (hk : k < l.length) : ∃ ad, A = some ad ∧ w.cell? (ad.add k) = some (.int .i64 (l.getD k 0)) := by
  obtain ⟨ad, e, _, hc⟩ := h.2 (by omega)
  exact ⟨ad, e, hc k _ (by simp [List.getD_eq_getElem?_getD, hk])⟩
set_option maxHeartbeats 16000000 in
set_option maxRecDepth 100000 in
theorem files_calls {w : World} {own : Nat → Prop} {b : Nat} {r : R} {n : Nat} (h : IsRef w own b r n) (hn : n < 1000000000) :
    Calls Try.prog 28 #[.pointer (some ⟨b, 0, none⟩)] w fun e w' => ∃ v, e = .returned v ∧ w'.ownsRow w.heap.size 3 1 v (filesL r.L).length ((filesL r.L).map (Value.int .i64)) ∧ Below w.heap.size w w' := by
  have hu := Try.underlying75
  obtain ⟨v, h1, _, _⟩ := h
  have HH1 := Aside0.mk h1
  have hlen := h1.len
  clear h1
  obtain ⟨i0, hi0, hz0, hz1, hz2⟩ := infoParts3 intInfo
  go_enter Try.func28, Try.ntmps28
  go_wp2
  go_loopw [3, 4] (fun v3 v4 wr => ∃ i : Nat, i ≤ r.L.length ∧ v4 = .int .i64 i ∧ Aside0 (wr.ownsRow w.heap.size 3 1 v3 (filesL (r.L.take i)).length ((filesL (r.L.take i)).map (Value.int .i64))) ∧ Aside0 (Below w.heap.size w wr)) (fun _ v4 _ => r.L.length - (intOf v4).toNat)
  case atStart => exact ⟨0, by omega, rfl, ⟨World.ownsRow_nil _ _ _ _⟩, ⟨Below.refl _ _⟩⟩
  case round =>
    obtain ⟨i, hi, rfl, HO, HB⟩ := hrel
    have h1r := HH1.out.below HB.out
    obtain ⟨A, c, hvA⟩ := HH1.out.shape
    have c0 : wr.cell? ⟨b, 0, none⟩ = some (.slice A r.L.length c) := by have := h1r.hb; simp [World.cell?, this, hvA]
    by_cases hlt : i < r.L.length
    · obtain ⟨g, c', x, hv, hx, hne, hcl, hcm, d0, d1, d2, df⟩ := h1r.at_ hlt
      rw [hvA] at hv
      cases hv
      have hfs := files_snoc hx
      have hfl : (filesL (r.L.take i)).length ≤ 1000000000 := by have := files_len (r.L.take i); rw [List.length_take] at this; omega
      have HVA := Aside0.mk hvA
      have HFS := Aside0.mk hfs
      clear hx df hvA h1r hfs d1 d2
      generalize filesL (r.L.take i) = o at *
      obtain ⟨z, hz⟩ : ∃ z, z = x.1 := ⟨_, rfl⟩
      rw [← hz] at d0 HFS
      clear hz
      obtain ⟨A3, c3, rfl, hcap⟩ : ∃ A3 c3, u3 = .slice A3 o.length c3 ∧ o.length ≤ c3 ∧ c3 ≤ 9223372036854775807 := by
        rcases HO.out.2 with ⟨e, e0⟩ | ⟨g, cap, cur, e, _, _, k1, k2, _⟩
        · exact ⟨none, 0, by rw [e, e0], by omega, by omega⟩
        · exact ⟨_, _, e, k1, k2⟩
      have HR := Aside0.mk (Reads.of_own HO.out)
      obtain ⟨hcap1, hcap2⟩ := hcap
      go_wp2
      go_loop [6] (fun v6 => ∃ k : Nat, k ≤ o.length ∧ v6 = .int .i64 k ∧ Aside0 (∀ j, j < k → o.getD j 0 < z)) (fun v6 => o.length - (intOf v6).toNat)
      case atStart => exact ⟨0, by omega, rfl, ⟨fun j hj => by omega⟩⟩
      case round =>
        obtain ⟨k, hk, rfl, HK⟩ := hrel
        by_cases hkl : k < o.length
        · obtain ⟨ad, rfl, hc⟩ := cell_of_reads HR.out hkl
          by_cases hlz : o.getD k 0 < z
          · have HK2 : Aside0 (∀ j, j < k + 1 → o.getD j 0 < z) := ⟨fun j hj => by
              rcases Nat.lt_or_ge j k with h | h
              · exact HK.out j h
              · rw [show j = k from by omega]; exact hlz⟩
            generalize o.getD k 0 = y at *
            go_wp2
            go_round
            case rel => exact ⟨k + 1, by omega, by go_num, HK2⟩
            case measure => simp [intOf]; omega
          · have hge : ¬ o.getD k 0 < z := hlz
            by_cases heq : o.getD k 0 = z
            · have HI : Aside0 (ins z o = o) := ⟨by rw [ins_at z o k hk HK.out (.inr ⟨hkl, hge⟩), if_pos ⟨hkl, heq⟩]⟩
              rw [heq] at hc
              have hzz : ¬ z < z := by omega
              clear hlz hge heq
              go_wp2
              go_roundw
              case rel => exact ⟨i + 1, by omega, by go_num, ⟨by rw [HFS.out, HI.out]; exact HO.out⟩, HB⟩
              case measure => simp [intOf]; omega
            · have HI : Aside0 (ins z o = o.take k ++ ([z] ++ o.drop k)) := ⟨by rw [ins_at z o k hk HK.out (.inr ⟨hkl, hge⟩), if_neg (fun h => heq h.2)]⟩
              have hq : (o.getD k 0 == z) = false := by simpa using heq
              clear hge heq
              generalize o.getD k 0 = y at *
              have hsz := HB.out.size
              go_upto_region 11 with (fail)
              go_wp2_with (first
                | (at_builtin; refine wpList_append_any _ rfl (.tmp 51) (.tmp 54) _ rfl w.heap.size 3 i0 _ 8 Try.underlying41 hi0 hz0 hz1 hz2 rfl (.slice none 0 0) 0 [] rfl (World.ownsRow_nil _ _ _ _) wr.heap.size (some ad) k c3 ((o.take k).map (Value.int .i64)) rfl (by rw [List.map_take]; exact HR.out.take hk) (one_ints _) (by unfold maxLen; omega) (by omega) hsz ?_; intro v1 w4 hown1 hg1 hat1; have HB4 : Aside0 (Below w.heap.size w w4 ∧ Below wr.heap.size wr w4) := ⟨HB.out.grown hg1 hsz (by simp [Value.ownBlock]), (Below.refl _ _).grown hg1 (Nat.le_refl _) (by simp [Value.ownBlock])⟩; have HO4 : Aside0 (w4.ownsRow w.heap.size 3 1 v1 k ((o.take k).map (Value.int .i64))) := ⟨by simpa using hown1⟩; have HA4 : Aside0 (∀ g, v1.ownBlock = some g → wr.heap.size ≤ g) := ⟨fun g hg => by rcases hat1 with e | e <;> rw [e] at hg <;> simp [Value.ownBlock] at hg; omega⟩; have hs4 := HB4.out.1.size; have hs4r := HB4.out.2.size; clear hown1 hg1 hat1)
                | (at_builtin; refine wpList_append_any _ rfl (.tmp 56) (.tmp 58) _ rfl w.heap.size 3 i0 _ 8 Try.underlying41 hi0 hz0 hz1 hz2 rfl v1 k ((o.take k).map (Value.int .i64)) rfl (HO4.out.alloc _) (w4.heap.size + 1) (some ⟨w4.heap.size, 0, none⟩) 1 1 [.int .i64 z] rfl ⟨rfl, fun _ => ⟨_, rfl, by simp, World.news_of_block (heap_alloc_new w4 _)⟩⟩ (one_ints [z]) (by unfold maxLen; omega) (by omega) (by simp; omega) ?_; intro v2 w5 hown2 hg2 hat2; have HB5 : Aside0 (Below w.heap.size w w5 ∧ Below wr.heap.size wr w5) := ⟨(HB4.out.1.alloc hs4 _).grown hg2 (by simp; omega) (fun j hj => by have := HA4.out j hj; omega), (HB4.out.2.alloc hs4r _).grown hg2 (by simp; omega) (fun j hj => HA4.out j hj)⟩; have HO5 : Aside0 (w5.ownsRow w.heap.size 3 1 v2 (k + 1) ((o.take k).map (Value.int .i64) ++ [.int .i64 z])) := ⟨hown2⟩; have HA5 : Aside0 (∀ g, v2.ownBlock = some g → wr.heap.size ≤ g) := ⟨fun g hg => by rcases hat2 with e | e <;> rw [e] at hg; (exact HA4.out g hg); (simp at hg; omega)⟩; have hs5 := HB5.out.1.size; have hs5r := HB5.out.2.size; clear hown2 hg2 hat2)
                | (at_builtin; refine wpList_append_any _ rfl (.tmp 60) (.tmp 63) _ rfl w.heap.size 3 i0 _ 8 Try.underlying41 hi0 hz0 hz1 hz2 rfl v2 (k + 1) ((o.take k).map (Value.int .i64) ++ [.int .i64 z]) rfl HO5.out wr.heap.size (some (ad.add k)) (o.length - k) _ ((o.drop k).map (Value.int .i64)) rfl (by rw [List.map_drop]; have hq := (HR.out.below HB5.out.2).cut hk hcap1; rw [if_neg (by omega)] at hq; exact hq) (one_ints _) (by unfold maxLen; omega) (by omega) hs5 ?_; intro v3 w6 hown3 hg3 hat3; have HB6 : Aside0 (Below w.heap.size w w6) := ⟨HB5.out.1.grown hg3 hs5 (fun j hj => by have := HA5.out j hj; omega)⟩; have HO6 : Aside0 (w6.ownsRow w.heap.size 3 1 v3 (k + 1 + (o.length - k)) ((o.take k).map (Value.int .i64) ++ [.int .i64 z] ++ (o.drop k).map (Value.int .i64))) := ⟨hown3⟩; clear hown3 hg3 hat3))
              go_roundw
              case rel => exact ⟨i + 1, by omega, by go_num, ⟨by rw [HFS.out, HI.out, show (o.take k ++ ([z] ++ o.drop k)).length = k + 1 + (o.length - k) from by simp; omega]; have := HO6.out; simpa using this⟩, HB6⟩
              case measure => simp [intOf]; omega
        · have HI : Aside0 (ins z o = o.take k ++ ([z] ++ o.drop k)) := ⟨by rw [ins_at z o k hk HK.out (.inl (by omega)), if_neg (by omega)]⟩
          have hsz := HB.out.size
          go_upto_region 11 with (fail)
          go_wp2_with (first
            | (at_builtin; refine wpList_append_any _ rfl (.tmp 51) (.tmp 54) _ rfl w.heap.size 3 i0 _ 8 Try.underlying41 hi0 hz0 hz1 hz2 rfl (.slice none 0 0) 0 [] rfl (World.ownsRow_nil _ _ _ _) wr.heap.size A3 k c3 ((o.take k).map (Value.int .i64)) rfl (by rw [List.map_take]; exact HR.out.take hk) (one_ints _) (by unfold maxLen; omega) (by omega) hsz ?_; intro v1 w4 hown1 hg1 hat1; have HB4 : Aside0 (Below w.heap.size w w4 ∧ Below wr.heap.size wr w4) := ⟨HB.out.grown hg1 hsz (by simp [Value.ownBlock]), (Below.refl _ _).grown hg1 (Nat.le_refl _) (by simp [Value.ownBlock])⟩; have HO4 : Aside0 (w4.ownsRow w.heap.size 3 1 v1 k ((o.take k).map (Value.int .i64))) := ⟨by simpa using hown1⟩; have HA4 : Aside0 (∀ g, v1.ownBlock = some g → wr.heap.size ≤ g) := ⟨fun g hg => by rcases hat1 with e | e <;> rw [e] at hg <;> simp [Value.ownBlock] at hg; omega⟩; have hs4 := HB4.out.1.size; have hs4r := HB4.out.2.size; clear hown1 hg1 hat1)
            | (at_builtin; refine wpList_append_any _ rfl (.tmp 56) (.tmp 58) _ rfl w.heap.size 3 i0 _ 8 Try.underlying41 hi0 hz0 hz1 hz2 rfl v1 k ((o.take k).map (Value.int .i64)) rfl (HO4.out.alloc _) (w4.heap.size + 1) (some ⟨w4.heap.size, 0, none⟩) 1 1 [.int .i64 z] rfl ⟨rfl, fun _ => ⟨_, rfl, by simp, World.news_of_block (heap_alloc_new w4 _)⟩⟩ (one_ints [z]) (by unfold maxLen; omega) (by omega) (by simp; omega) ?_; intro v2 w5 hown2 hg2 hat2; have HB5 : Aside0 (Below w.heap.size w w5 ∧ Below wr.heap.size wr w5) := ⟨(HB4.out.1.alloc hs4 _).grown hg2 (by simp; omega) (fun j hj => by have := HA4.out j hj; omega), (HB4.out.2.alloc hs4r _).grown hg2 (by simp; omega) (fun j hj => HA4.out j hj)⟩; have HO5 : Aside0 (w5.ownsRow w.heap.size 3 1 v2 (k + 1) ((o.take k).map (Value.int .i64) ++ [.int .i64 z])) := ⟨hown2⟩; have HA5 : Aside0 (∀ g, v2.ownBlock = some g → wr.heap.size ≤ g) := ⟨fun g hg => by rcases hat2 with e | e <;> rw [e] at hg; (exact HA4.out g hg); (simp at hg; omega)⟩; have hs5 := HB5.out.1.size; have hs5r := HB5.out.2.size; clear hown2 hg2 hat2)
            | (at_builtin; refine wpList_append_any _ rfl (.tmp 60) (.tmp 63) _ rfl w.heap.size 3 i0 _ 8 Try.underlying41 hi0 hz0 hz1 hz2 rfl v2 (k + 1) ((o.take k).map (Value.int .i64) ++ [.int .i64 z]) rfl HO5.out wr.heap.size _ (o.length - k) _ ((o.drop k).map (Value.int .i64)) rfl (by rw [List.map_drop]; exact (HR.out.below HB5.out.2).cut hk hcap1) (one_ints _) (by unfold maxLen; omega) (by omega) hs5 ?_; intro v3 w6 hown3 hg3 hat3; have HB6 : Aside0 (Below w.heap.size w w6) := ⟨HB5.out.1.grown hg3 hs5 (fun j hj => by have := HA5.out j hj; omega)⟩; have HO6 : Aside0 (w6.ownsRow w.heap.size 3 1 v3 (k + 1 + (o.length - k)) ((o.take k).map (Value.int .i64) ++ [.int .i64 z] ++ (o.drop k).map (Value.int .i64))) := ⟨hown3⟩; clear hown3 hg3 hat3))
          go_roundw
          case rel => exact ⟨i + 1, by omega, by go_num, ⟨by rw [HFS.out, HI.out, show (o.take k ++ ([z] ++ o.drop k)).length = k + 1 + (o.length - k) from by simp; omega]; have := HO6.out; simpa using this⟩, HB6⟩
          case measure => simp [intOf]; omega
    · obtain rfl : i = r.L.length := by omega
      rw [List.take_length] at HO
      clear h1r hvA
      go_wp2
      go_ret
      exact ⟨_, rfl, HO.out, HB.out⟩
end Go.Proofs.Ytdjcaogffppdhaa.Ref
