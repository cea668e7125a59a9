/- Maps with pairs of whole numbers (a struct of two) as keys, and strings as entries: as functions of these pairs. -/
import Derived.Test.YtdjcaogffppdhaaIMap
import Derived.DeepKeys4
import Derived.Test.YtdjcaogffppdhaaMed
set_option linter.unusedVariables false
set_option linter.unusedSimpArgs false
namespace Go.Proofs.Ytdjcaogffppdhaa.PMap
open Go.RowKit Go.ChangeMaps Go.Proofs.Ytdjcaogffppdhaa.IMap Go.Proofs.Ytdjcaogffppdhaa.Med
open Go.Maps (Keyed)
abbrev KT : TypeId := 46
theorem laidOut : laidOutB Try.prog = true := by kernel_rfl
theorem cellsK : Try.prog.cellsOf KT = 2 := by kernel_rfl
theorem cells1 : Try.prog.cellsOf 3 = 1 := by kernel_rfl
theorem ktK : Try.prog.keyType KT = true := by kernel_rfl
theorem wide : (match Try.prog.underlying KT with | some (.array _ _) | some (.struct _) => true | _ => false) = true := by rw [Try.underlying46]
set_option maxRecDepth 100000 in
theorem row : KT < Try.prog.types.size := of_decide_eq_true (by kernel_rfl)
set_option maxRecDepth 100000 in
theorem kta : Try.prog.keyTypeAt 2 KT = true := by kernel_rfl
set_option maxRecDepth 100000 in
theorem law : Keyed Try.prog KT := Keyed.of_law (deep_law_laid laidOut (m := 2) (by omega) row kta wide)
def pk (f a : Int) : Lit := .string (keyBytes [.int .i64 f, .int .i64 a])
def Ok (f a : Int) : Prop := (Lit.int .i64 f).wf = true ∧ (Lit.int .i64 a).wf = true
theorem keyOf_place {f a : Int} (h : Ok f a) : keyOf Try.prog KT (.agg #[.int .i64 f, .int .i64 a]) = some (pk f a) := by
  obtain ⟨hf, ha⟩ := h
  have hs : ∃ m, Try.prog.types.size = m + 2 := ⟨Try.prog.types.size - 2, by
    have : (46 : Nat) < Try.prog.types.size := row
    omega⟩
  obtain ⟨m, hm⟩ := hs
  have h3 : ∀ d (z : Int), (Lit.int .i64 z).wf = true → Try.prog.keyLits (d + 1) 3 [.int .i64 z] = some [.int .i64 z] := fun d z hz => by
    unfold Program.keyLits
    simp only [Try.underlying3]
    rw [if_pos ⟨trivial, hz⟩]
  unfold keyOf
  simp only [Try.underlying46]
  rw [if_pos (by simp [ktK, Value.formed, Try.underlying46, cellsK]), hm]
  unfold Program.keyLits
  simp only [Try.underlying46, Value.cells]
  rw [if_pos ⟨by rw [cellsK]; rfl, by simp⟩]
  simp only [List.mapM_cons, List.mapM_nil, cells1, List.drop_zero, List.take_succ_cons, List.take_zero, List.drop_succ_cons]
  rw [h3 _ f hf, h3 _ a ha]
  rfl
theorem pk_inj {f a f' a' : Int} (h : Ok f a) (h' : Ok f' a') (e : pk f a = pk f' a') : f = f' ∧ a = a' := by
  have := law.inj (keyOf_place h) (by rw [e]; exact keyOf_place h')
  simpa using this
theorem isKey (f a : Int) : WideAt.IsKeyLit (pk f a) := by unfold pk; exact trivial
/-- D reads, at each pair, as F tells. -/
def Reads (D : D0) (F : Int → Int → Option D0) : Prop := Maps.IsMap D ∧ ∀ f a, Ok f a → Maps.has D (pk f a) = (F f a).isSome ∧ ∀ z, D.atKey (pk f a) z = (F f a).getD z
theorem Reads.nil : Reads (.map []) (fun _ _ => none) := ⟨Maps.isMap_empty, fun i a _ => ⟨rfl, fun z => rfl⟩⟩
theorem Reads.put {D : D0} {F : Int → Int → Option D0} (h : Reads D F) {f a : Int} (hk : Ok f a) (d : D0) : Reads (D.put (pk f a) d) (fun g b => if g = f ∧ b = a then some d else F g b) := by
  refine ⟨h.1.put _ _, fun g b hj => ?_⟩
  by_cases e : g = f ∧ b = a
  · obtain ⟨rfl, rfl⟩ := e
    simp only [and_self, if_true]
    exact ⟨Maps.has_put_same h.1 (isKey _ _) d, fun z => Maps.atKey_put_same h.1 (isKey _ _) d z⟩
  · simp only [e, if_false]
    have hne : pk g b ≠ pk f a := fun k => e (pk_inj hj hk k)
    obtain ⟨x, c⟩ := h.2 g b hj
    exact ⟨(Maps.has_put_other hne d).trans x, fun z => (Maps.atKey_put_other hne d z).trans (c z)⟩
theorem Reads.del {D : D0} {F : Int → Int → Option D0} (h : Reads D F) {f a : Int} (hk : Ok f a) : Reads (D.del (pk f a)) (fun g b => if g = f ∧ b = a then none else F g b) := by
  refine ⟨h.1.del _, fun g b hj => ?_⟩
  by_cases e : g = f ∧ b = a
  · obtain ⟨rfl, rfl⟩ := e
    simp only [and_self, if_true]
    exact ⟨Maps.has_del_same, fun z => Maps.atKey_del_same z⟩
  · simp only [e, if_false]
    have hne : pk g b ≠ pk f a := fun k => e (pk_inj hj hk k)
    obtain ⟨x, c⟩ := h.2 g b hj
    exact ⟨(Maps.has_del_other hne).trans x, fun z => (Maps.atKey_del_other hne z).trans (c z)⟩
/-- Block b is a map of at most n entries, from pairs to strings. -/
def PMap (w : World) (b n : Nat) (W : Int → Int → Option ByteArray) : Prop := ∃ D, w.ownsMap Try.prog KT RS b n D ∧ Reads D (fun f a => (W f a).map fun s => .lit (.string s.data.toList))
section
variable {w w' : World} {b n : Nat} {W : Int → Int → Option ByteArray}
theorem PMap.made (w : World) : PMap (w.alloc (.map #[] 0)) w.heap.size 0 (fun _ _ => none) := ⟨_, World.ownsMap_made w _ _ _, Reads.nil⟩
theorem PMap.lt (h : PMap w b n W) : b < w.heap.size := by obtain ⟨D, h, _⟩ := h; exact h.lt
theorem PMap.same (h : PMap w b n W) (e : w'.heap[b]? = w.heap[b]?) : PMap w' b n W := by
  obtain ⟨D, ⟨es, clock, hb, r⟩, hD⟩ := h
  exact ⟨D, ⟨es, clock, e.trans hb, r⟩, hD⟩
theorem PMap.mono (h : PMap w b n W) {n' : Nat} (hn : n ≤ n') : PMap w b n' W := by obtain ⟨D, h, r⟩ := h; exact ⟨D, h.mono hn, r⟩
theorem PMap.look (h : PMap w b n W) {f a : Int} (hk : Ok f a) : (Instr.lookup 44 (.map (some b)) (.agg #[.int .i64 f, .int .i64 a]) true).run Try.prog w = .ok (.tuple #[.string ((W f a).getD ⟨#[]⟩), .bool (W f a).isSome]) w := by
  obtain ⟨D, h, r⟩ := h
  obtain ⟨v, ps, e, c⟩ := h.look_ok law Try.underlying44 (zero_string w) (zd := .lit (.string (⟨#[]⟩ : ByteArray).data.toList)) (zp := []) (RS_mk _ (by decide)) (keyOf_place hk)
  obtain ⟨h1, h2⟩ := r.2 f a hk
  rw [e, h1]
  have hv : v = .string ((W f a).getD ⟨#[]⟩) := by
    rw [h2] at c
    have c : RS v = some (((W f a).map fun s => DataW.lit (Lit.string s.data.toList)).getD (.lit (.string (⟨#[]⟩ : ByteArray).data.toList)), ps) := c
    cases hW : W f a with
    | none => rw [hW] at c; exact RS_inv c
    | some s => rw [hW] at c; exact RS_inv c
  rw [hv]
  simp
theorem PMap.update (h : PMap w b n W) (hn : n < maxLen) {f a : Int} (hk : Ok f a) {s : ByteArray} (hs : s.size ≤ maxLen) :
    ∃ w', (Instr.mapUpdate 44 (.map (some b)) (.agg #[.int .i64 f, .int .i64 a]) (.string s)).run Try.prog w = .ok () w' ∧ PMap w' b (n + 1) (fun g c => if g = f ∧ c = a then some s else W g c) ∧ w.grownBy w' (some b) := by
  obtain ⟨D, h, r⟩ := h
  obtain ⟨w', e, c, g⟩ := h.update law Try.underlying44 hn (keyOf_place hk) (RS_mk s hs)
  refine ⟨w', e, ⟨_, c, ?_⟩, g⟩
  have hr := r.put hk (.lit (.string s.data.toList))
  refine ⟨hr.1, fun g' b' ho => ?_⟩
  have := hr.2 g' b' ho
  by_cases hc : g' = f ∧ b' = a
  · simp only [hc, and_self, if_true, Option.map_some] at this ⊢; exact this
  · simp only [hc, if_false] at this ⊢; exact this
theorem PMap.drop (h : PMap w b n W) {f a : Int} (hk : Ok f a) (ty : TypeId) :
    ∃ w', (Builtin.delete_ #[44, KT] ty #[.map (some b), .agg #[.int .i64 f, .int .i64 a]]).run Try.prog w = .ok (.tuple #[]) w' ∧ PMap w' b n (fun g c => if g = f ∧ c = a then none else W g c) ∧ w.mapTurned w' b := by
  obtain ⟨D, h, r⟩ := h
  obtain ⟨w', e, c, g⟩ := h.drop law Try.underlying44 (keyOf_place hk) ty
  refine ⟨w', e, ⟨_, c, ?_⟩, g⟩
  have hr := r.del hk
  refine ⟨hr.1, fun g' b' ho => ?_⟩
  have := hr.2 g' b' ho
  by_cases hc : g' = f ∧ b' = a
  · simp only [hc, and_self, if_true, Option.map_none] at this ⊢; exact this
  · simp only [hc, if_false] at this ⊢; exact this
end
end Go.Proofs.Ytdjcaogffppdhaa.PMap
