/-
  No cell of these rows narrows 'for every input' (looked for: loops, veiled, ifaces, maps, wideKeys, modest, calm, conditions, laid).
  DERIVED. THE GIVEN ROWS OF THIS SEAT. 7 by the template 'for every input the law returns true; each argument reads behind the call as it read before'; 0 by the template 'total and deterministic' (their statements: YtdjcaogffppdhaaTotals.lean).
  GIVEN WITH THE SEED: the statements are not yours to turn. If you find one false, say at which input.
  Laid BY PROGRAM, IN A SANDBOX (cutbox-rows.mjs): the forced cells as the released guide's own fill.sh prints them over the translation 5c66a8177e45a4a3… (all of the seat's roots in one cut). By AI agents, Wed Nov 11 2026. No macro, syntax, notation, axiom, sorry.
-/
import Derived.Test.YtdjcaogffppdhaaChecked
import GoSem.Claim
import GoSem.ClaimJoined
import GoSem.ClaimMapViews
import Derived.JoinedTies
import Derived.KernelRfl
namespace Go.Proofs.Ytdjcaogffppdhaa
/- THE CELL 'sum', in the pinned program and in every row, IS THE sha256 OF THE DUMP (.gsa) THAT YtdjcaogffppdhaaProg.lean LOADS. Nothing in Lean hashes anything: it is a label: what it is worth is what the hold of that sum in a sandbox is worth. -/
noncomputable def Try.pinned : Pinned := { name := "ytdjcaogffppdhaa", sum := "5c66a8177e45a4a3422a1e6a28e0e98c10d09d2e56580361a74ad088dc34ed9e", checked := Try.checked }
namespace Rows
def none {H : Type} : Left H := { results := [], args := [] }

/-- 'stevedorelaw03.MediaCuts': WHATEVER THE INPUT: true; the input reads as it did. -/
def mediaCutsSpec : ChangeSpec := { name := "mediaCuts", fn := fun _ => fun
  | [d1, d2] => { results := [.lit (.bool true)], args := [d1, d2] }
  | _ => none }
def mediaCutsRow : OpenClaim := { program := "ytdjcaogffppdhaa", sum := "5c66a8177e45a4a3422a1e6a28e0e98c10d09d2e56580361a74ad088dc34ed9e", func := "stevedore/stevedorelaw03.MediaCuts", spec := "mediaCuts", unfollowed := true, recurses := true, plainKeys := false, apart := false }
def MediaCutsSaid : Prop := mediaCutsRow.holds Try.pinned (OpenSpec.ofChange mediaCutsSpec)

/-- ITS FALSE NEIGHBOUR: 'it returns false'. Refute it at one input. -/
def mediaCutsWrong : ChangeSpec := { name := "mediaCuts", fn := fun _ => fun
  | [d1, d2] => { results := [.lit (.bool false)], args := [d1, d2] }
  | _ => none }
def MediaCutsWrongFalsely : Prop := mediaCutsRow.holds Try.pinned (OpenSpec.ofChange mediaCutsWrong)

/-- 'stevedorelaw03.MediaPlays': WHATEVER THE INPUT: true; the input reads as it did. -/
def mediaPlaysSpec : ChangeSpec := { name := "mediaPlays", fn := fun _ => fun
  | [d] => { results := [.lit (.bool true)], args := [d] }
  | _ => none }
def mediaPlaysRow : OpenClaim := { program := "ytdjcaogffppdhaa", sum := "5c66a8177e45a4a3422a1e6a28e0e98c10d09d2e56580361a74ad088dc34ed9e", func := "stevedore/stevedorelaw03.MediaPlays", spec := "mediaPlays", unfollowed := true, recurses := true, plainKeys := false, apart := false }
def MediaPlaysSaid : Prop := mediaPlaysRow.holds Try.pinned (OpenSpec.ofChange mediaPlaysSpec)

/-- ITS FALSE NEIGHBOUR: 'it returns false'. Refute it at one input. -/
def mediaPlaysWrong : ChangeSpec := { name := "mediaPlays", fn := fun _ => fun
  | [d] => { results := [.lit (.bool false)], args := [d] }
  | _ => none }
def MediaPlaysWrongFalsely : Prop := mediaPlaysRow.holds Try.pinned (OpenSpec.ofChange mediaPlaysWrong)

/-- 'stevedorelaw03.MediaLasts': WHATEVER THE INPUT: true; the input reads as it did. -/
def mediaLastsSpec : ChangeSpec := { name := "mediaLasts", fn := fun _ => fun
  | [d] => { results := [.lit (.bool true)], args := [d] }
  | _ => none }
def mediaLastsRow : OpenClaim := { program := "ytdjcaogffppdhaa", sum := "5c66a8177e45a4a3422a1e6a28e0e98c10d09d2e56580361a74ad088dc34ed9e", func := "stevedore/stevedorelaw03.MediaLasts", spec := "mediaLasts", unfollowed := true, recurses := true, plainKeys := false, apart := false }
def MediaLastsSaid : Prop := mediaLastsRow.holds Try.pinned (OpenSpec.ofChange mediaLastsSpec)

/-- ITS FALSE NEIGHBOUR: 'it returns false'. Refute it at one input. -/
def mediaLastsWrong : ChangeSpec := { name := "mediaLasts", fn := fun _ => fun
  | [d] => { results := [.lit (.bool false)], args := [d] }
  | _ => none }
def MediaLastsWrongFalsely : Prop := mediaLastsRow.holds Try.pinned (OpenSpec.ofChange mediaLastsWrong)

/-- 'stevedorelaw03.MediaNil': WHATEVER THE INPUT: true; the input reads as it did. -/
def mediaNilSpec : ChangeSpec := { name := "mediaNil", fn := fun _ => fun
  | [d] => { results := [.lit (.bool true)], args := [d] }
  | _ => none }
def mediaNilRow : OpenClaim := { program := "ytdjcaogffppdhaa", sum := "5c66a8177e45a4a3422a1e6a28e0e98c10d09d2e56580361a74ad088dc34ed9e", func := "stevedore/stevedorelaw03.MediaNil", spec := "mediaNil", unfollowed := true, recurses := true, plainKeys := false, apart := false }
def MediaNilSaid : Prop := mediaNilRow.holds Try.pinned (OpenSpec.ofChange mediaNilSpec)

/-- ITS FALSE NEIGHBOUR: 'it returns false'. Refute it at one input. -/
def mediaNilWrong : ChangeSpec := { name := "mediaNil", fn := fun _ => fun
  | [d] => { results := [.lit (.bool false)], args := [d] }
  | _ => none }
def MediaNilWrongFalsely : Prop := mediaNilRow.holds Try.pinned (OpenSpec.ofChange mediaNilWrong)

/-- 'stevedorelaw05.LogsKeeps': WHATEVER THE INPUT: true; the input reads as it did. -/
def logsKeepsSpec : ChangeSpec := { name := "logsKeeps", fn := fun _ => fun
  | [d1, d2] => { results := [.lit (.bool true)], args := [d1, d2] }
  | _ => none }
def logsKeepsRow : OpenClaim := { program := "ytdjcaogffppdhaa", sum := "5c66a8177e45a4a3422a1e6a28e0e98c10d09d2e56580361a74ad088dc34ed9e", func := "stevedore/stevedorelaw05.LogsKeeps", spec := "logsKeeps", inPlace := ["internal/abi.NoEscape"], unfollowed := true, recurses := true, plainKeys := false, apart := false }
def LogsKeepsSaid : Prop := logsKeepsRow.holds Try.pinned (OpenSpec.ofChange logsKeepsSpec)

/-- ITS FALSE NEIGHBOUR: 'it returns false'. Refute it at one input. -/
def logsKeepsWrong : ChangeSpec := { name := "logsKeeps", fn := fun _ => fun
  | [d1, d2] => { results := [.lit (.bool false)], args := [d1, d2] }
  | _ => none }
def LogsKeepsWrongFalsely : Prop := logsKeepsRow.holds Try.pinned (OpenSpec.ofChange logsKeepsWrong)

/-- 'stevedorelaw05.LogsNil': WHATEVER THE INPUT: true; the input reads as it did. -/
def logsNilSpec : ChangeSpec := { name := "logsNil", fn := fun _ => fun
  | [d] => { results := [.lit (.bool true)], args := [d] }
  | _ => none }
def logsNilRow : OpenClaim := { program := "ytdjcaogffppdhaa", sum := "5c66a8177e45a4a3422a1e6a28e0e98c10d09d2e56580361a74ad088dc34ed9e", func := "stevedore/stevedorelaw05.LogsNil", spec := "logsNil", inPlace := ["internal/abi.NoEscape"], unfollowed := true, recurses := true, plainKeys := false, apart := false }
def LogsNilSaid : Prop := logsNilRow.holds Try.pinned (OpenSpec.ofChange logsNilSpec)

/-- ITS FALSE NEIGHBOUR: 'it returns false'. Refute it at one input. -/
def logsNilWrong : ChangeSpec := { name := "logsNil", fn := fun _ => fun
  | [d] => { results := [.lit (.bool false)], args := [d] }
  | _ => none }
def LogsNilWrongFalsely : Prop := logsNilRow.holds Try.pinned (OpenSpec.ofChange logsNilWrong)

/-- 'stevedorelaw05.LogsLasts': WHATEVER THE INPUT: true; the input reads as it did. -/
def logsLastsSpec : ChangeSpec := { name := "logsLasts", fn := fun _ => fun
  | [d1, d2] => { results := [.lit (.bool true)], args := [d1, d2] }
  | _ => none }
def logsLastsRow : OpenClaim := { program := "ytdjcaogffppdhaa", sum := "5c66a8177e45a4a3422a1e6a28e0e98c10d09d2e56580361a74ad088dc34ed9e", func := "stevedore/stevedorelaw05.LogsLasts", spec := "logsLasts", inPlace := ["internal/abi.NoEscape"], unfollowed := true, recurses := true, plainKeys := false, apart := false }
def LogsLastsSaid : Prop := logsLastsRow.holds Try.pinned (OpenSpec.ofChange logsLastsSpec)

/-- ITS FALSE NEIGHBOUR: 'it returns false'. Refute it at one input. -/
def logsLastsWrong : ChangeSpec := { name := "logsLasts", fn := fun _ => fun
  | [d1, d2] => { results := [.lit (.bool false)], args := [d1, d2] }
  | _ => none }
def LogsLastsWrongFalsely : Prop := logsLastsRow.holds Try.pinned (OpenSpec.ofChange logsLastsWrong)

/- THE SECOND FORM. 'bulk': how many values and letters a reading holds, each counted each time it is reached (what is shared counts as often as it is met; a slice's spare places count too). A statement '..UptoSaid' is the law's where the arguments, and the package variables that the reading takes, are together of bulk at most 1048576: NARROWER than '..Said'. Prove '..Said' where nothing that the law and all that it calls make is longer than what came in: it says more and counts as full. Else prove '..UptoSaid'. A law counts once. -/
mutual
def uptoBulk {H : Type} : DataW H → Nat
  | .lit (.string bytes) => bytes.length + 1
  | .lit _ => 1
  | .nil => 1
  | .ptr d => uptoBulk d + 1
  | .slice elems spare => uptoBulkAll elems + uptoBulkAll spare + 1
  | .agg parts => uptoBulkAll parts + 1
  | .iface _ d => uptoBulk d + 1
  | .map entries => uptoBulkEntries entries + 1
  | .held _ => 1
def uptoBulkAll {H : Type} : List (DataW H) → Nat
  | [] => 0
  | d :: r => uptoBulk d + uptoBulkAll r
def uptoBulkEntries {H : Type} : List (Lit × DataW H) → Nat
  | [] => 0
  | x :: r => uptoBulkEntry x + uptoBulkEntries r
def uptoBulkEntry {H : Type} : Lit × DataW H → Nat
  | (.string bytes, d) => bytes.length + uptoBulk d + 1
  | (_, d) => uptoBulk d + 1
 end
def uptoSmall : (H : Type) → List (DataW H) → Bool := fun _ ds => decide (uptoBulkAll ds ≤ 1048576)
def OpenSpec.upto (s : _root_.Go.ChangeSpec) : _root_.Go.OpenSpec := { _root_.Go.OpenSpec.ofChange s with cond := some uptoSmall }

/-- 'stevedorelaw03.MediaCuts', WHERE WHAT IT READS IS OF BULK AT MOST 1048576: true; the input reads as it did. -/
def mediaCutsUptoRow : OpenClaim := { program := "ytdjcaogffppdhaa", sum := "5c66a8177e45a4a3422a1e6a28e0e98c10d09d2e56580361a74ad088dc34ed9e", func := "stevedore/stevedorelaw03.MediaCuts", spec := "mediaCuts", unfollowed := true, recurses := true, plainKeys := false, apart := false, narrowed := true }
def MediaCutsUptoSaid : Prop := mediaCutsUptoRow.holds Try.pinned (OpenSpec.upto mediaCutsSpec)

/-- 'stevedorelaw03.MediaPlays', WHERE WHAT IT READS IS OF BULK AT MOST 1048576: true; the input reads as it did. -/
def mediaPlaysUptoRow : OpenClaim := { program := "ytdjcaogffppdhaa", sum := "5c66a8177e45a4a3422a1e6a28e0e98c10d09d2e56580361a74ad088dc34ed9e", func := "stevedore/stevedorelaw03.MediaPlays", spec := "mediaPlays", unfollowed := true, recurses := true, plainKeys := false, apart := false, narrowed := true }
def MediaPlaysUptoSaid : Prop := mediaPlaysUptoRow.holds Try.pinned (OpenSpec.upto mediaPlaysSpec)

/-- 'stevedorelaw03.MediaLasts', WHERE WHAT IT READS IS OF BULK AT MOST 1048576: true; the input reads as it did. -/
def mediaLastsUptoRow : OpenClaim := { program := "ytdjcaogffppdhaa", sum := "5c66a8177e45a4a3422a1e6a28e0e98c10d09d2e56580361a74ad088dc34ed9e", func := "stevedore/stevedorelaw03.MediaLasts", spec := "mediaLasts", unfollowed := true, recurses := true, plainKeys := false, apart := false, narrowed := true }
def MediaLastsUptoSaid : Prop := mediaLastsUptoRow.holds Try.pinned (OpenSpec.upto mediaLastsSpec)

/-- 'stevedorelaw03.MediaNil', WHERE WHAT IT READS IS OF BULK AT MOST 1048576: true; the input reads as it did. -/
def mediaNilUptoRow : OpenClaim := { program := "ytdjcaogffppdhaa", sum := "5c66a8177e45a4a3422a1e6a28e0e98c10d09d2e56580361a74ad088dc34ed9e", func := "stevedore/stevedorelaw03.MediaNil", spec := "mediaNil", unfollowed := true, recurses := true, plainKeys := false, apart := false, narrowed := true }
def MediaNilUptoSaid : Prop := mediaNilUptoRow.holds Try.pinned (OpenSpec.upto mediaNilSpec)

/-- 'stevedorelaw05.LogsKeeps', WHERE WHAT IT READS IS OF BULK AT MOST 1048576: true; the input reads as it did. -/
def logsKeepsUptoRow : OpenClaim := { program := "ytdjcaogffppdhaa", sum := "5c66a8177e45a4a3422a1e6a28e0e98c10d09d2e56580361a74ad088dc34ed9e", func := "stevedore/stevedorelaw05.LogsKeeps", spec := "logsKeeps", inPlace := ["internal/abi.NoEscape"], unfollowed := true, recurses := true, plainKeys := false, apart := false, narrowed := true }
def LogsKeepsUptoSaid : Prop := logsKeepsUptoRow.holds Try.pinned (OpenSpec.upto logsKeepsSpec)

/-- 'stevedorelaw05.LogsNil', WHERE WHAT IT READS IS OF BULK AT MOST 1048576: true; the input reads as it did. -/
def logsNilUptoRow : OpenClaim := { program := "ytdjcaogffppdhaa", sum := "5c66a8177e45a4a3422a1e6a28e0e98c10d09d2e56580361a74ad088dc34ed9e", func := "stevedore/stevedorelaw05.LogsNil", spec := "logsNil", inPlace := ["internal/abi.NoEscape"], unfollowed := true, recurses := true, plainKeys := false, apart := false, narrowed := true }
def LogsNilUptoSaid : Prop := logsNilUptoRow.holds Try.pinned (OpenSpec.upto logsNilSpec)

/-- 'stevedorelaw05.LogsLasts', WHERE WHAT IT READS IS OF BULK AT MOST 1048576: true; the input reads as it did. -/
def logsLastsUptoRow : OpenClaim := { program := "ytdjcaogffppdhaa", sum := "5c66a8177e45a4a3422a1e6a28e0e98c10d09d2e56580361a74ad088dc34ed9e", func := "stevedore/stevedorelaw05.LogsLasts", spec := "logsLasts", inPlace := ["internal/abi.NoEscape"], unfollowed := true, recurses := true, plainKeys := false, apart := false, narrowed := true }
def LogsLastsUptoSaid : Prop := logsLastsUptoRow.holds Try.pinned (OpenSpec.upto logsLastsSpec)

end Rows
end Go.Proofs.Ytdjcaogffppdhaa
