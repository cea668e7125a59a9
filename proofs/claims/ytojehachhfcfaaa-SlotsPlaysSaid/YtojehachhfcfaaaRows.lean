/-
  No cell of these rows narrows 'for every input' (looked for: loops, veiled, ifaces, maps, wideKeys, modest, calm, conditions, laid).
  DERIVED. THE GIVEN ROWS OF THIS SEAT. 10 by the template 'for every input the law returns true; each argument reads behind the call as it read before'; 0 by the template 'total and deterministic' (their statements: YtojehachhfcfaaaTotals.lean).
  GIVEN WITH THE SEED: the statements are not yours to turn. If you find one false, say at which input.
  Laid BY PROGRAM, IN A SANDBOX (cutbox-rows.mjs): the forced cells as the released guide's own fill.sh prints them over the translation 5f7606e00f56a892… (all of the seat's roots in one cut). By AI agents, Wed Nov 11 2026. No macro, syntax, notation, axiom, sorry.
-/
import Derived.Test.YtojehachhfcfaaaChecked
import GoSem.Claim
import GoSem.ClaimJoined
import GoSem.ClaimMapViews
import Derived.JoinedTies
import Derived.KernelRfl
namespace Go.Proofs.Ytojehachhfcfaaa
/- THE CELL 'sum', in the pinned program and in every row, IS THE sha256 OF THE DUMP (.gsa) THAT YtojehachhfcfaaaProg.lean LOADS. Nothing in Lean hashes anything: it is a label: what it is worth is what the hold of that sum in a sandbox is worth. -/
noncomputable def Try.pinned : Pinned := { name := "ytojehachhfcfaaa", sum := "5f7606e00f56a892591700f464421d1ba82c7d22435f3835a19ff4d41c8562b6", checked := Try.checked }
namespace Rows
def none {H : Type} : Left H := { results := [], args := [] }

/-- 'stevedorelaw04.FramesLays': WHATEVER THE INPUT: true; the input reads as it did. -/
def framesLaysSpec : ChangeSpec := { name := "framesLays", fn := fun _ => fun
  | [d1, d2, d3] => { results := [.lit (.bool true)], args := [d1, d2, d3] }
  | _ => none }
def framesLaysRow : OpenClaim := { program := "ytojehachhfcfaaa", sum := "5f7606e00f56a892591700f464421d1ba82c7d22435f3835a19ff4d41c8562b6", func := "stevedore/stevedorelaw04.FramesLays", spec := "framesLays", inPlace := ["internal/abi.NoEscape"], apart := false }
def FramesLaysSaid : Prop := framesLaysRow.holds Try.pinned (OpenSpec.ofChange framesLaysSpec)

/-- ITS FALSE NEIGHBOUR: 'it returns false'. Refute it at one input. -/
def framesLaysWrong : ChangeSpec := { name := "framesLays", fn := fun _ => fun
  | [d1, d2, d3] => { results := [.lit (.bool false)], args := [d1, d2, d3] }
  | _ => none }
def FramesLaysWrongFalsely : Prop := framesLaysRow.holds Try.pinned (OpenSpec.ofChange framesLaysWrong)

/-- 'stevedorelaw04.FramesJoins': WHATEVER THE INPUT: true; the input reads as it did. -/
def framesJoinsSpec : ChangeSpec := { name := "framesJoins", fn := fun _ => fun
  | [d] => { results := [.lit (.bool true)], args := [d] }
  | _ => none }
def framesJoinsRow : OpenClaim := { program := "ytojehachhfcfaaa", sum := "5f7606e00f56a892591700f464421d1ba82c7d22435f3835a19ff4d41c8562b6", func := "stevedore/stevedorelaw04.FramesJoins", spec := "framesJoins", inPlace := ["internal/abi.NoEscape"], apart := false }
def FramesJoinsSaid : Prop := framesJoinsRow.holds Try.pinned (OpenSpec.ofChange framesJoinsSpec)

/-- ITS FALSE NEIGHBOUR: 'it returns false'. Refute it at one input. -/
def framesJoinsWrong : ChangeSpec := { name := "framesJoins", fn := fun _ => fun
  | [d] => { results := [.lit (.bool false)], args := [d] }
  | _ => none }
def FramesJoinsWrongFalsely : Prop := framesJoinsRow.holds Try.pinned (OpenSpec.ofChange framesJoinsWrong)

/-- 'stevedorelaw04.FramesBack': WHATEVER THE INPUT: true; the input reads as it did. -/
def framesBackSpec : ChangeSpec := { name := "framesBack", fn := fun _ => fun
  | [d1, d2, d3] => { results := [.lit (.bool true)], args := [d1, d2, d3] }
  | _ => none }
def framesBackRow : OpenClaim := { program := "ytojehachhfcfaaa", sum := "5f7606e00f56a892591700f464421d1ba82c7d22435f3835a19ff4d41c8562b6", func := "stevedore/stevedorelaw04.FramesBack", spec := "framesBack", inPlace := ["internal/abi.NoEscape"], apart := false }
def FramesBackSaid : Prop := framesBackRow.holds Try.pinned (OpenSpec.ofChange framesBackSpec)

/-- ITS FALSE NEIGHBOUR: 'it returns false'. Refute it at one input. -/
def framesBackWrong : ChangeSpec := { name := "framesBack", fn := fun _ => fun
  | [d1, d2, d3] => { results := [.lit (.bool false)], args := [d1, d2, d3] }
  | _ => none }
def FramesBackWrongFalsely : Prop := framesBackRow.holds Try.pinned (OpenSpec.ofChange framesBackWrong)

/-- 'stevedorelaw04.FramesThere': WHATEVER THE INPUT: true; the input reads as it did. -/
def framesThereSpec : ChangeSpec := { name := "framesThere", fn := fun _ => fun
  | [d] => { results := [.lit (.bool true)], args := [d] }
  | _ => none }
def framesThereRow : OpenClaim := { program := "ytojehachhfcfaaa", sum := "5f7606e00f56a892591700f464421d1ba82c7d22435f3835a19ff4d41c8562b6", func := "stevedore/stevedorelaw04.FramesThere", spec := "framesThere", inPlace := ["internal/abi.NoEscape"], apart := false }
def FramesThereSaid : Prop := framesThereRow.holds Try.pinned (OpenSpec.ofChange framesThereSpec)

/-- ITS FALSE NEIGHBOUR: 'it returns false'. Refute it at one input. -/
def framesThereWrong : ChangeSpec := { name := "framesThere", fn := fun _ => fun
  | [d] => { results := [.lit (.bool false)], args := [d] }
  | _ => none }
def FramesThereWrongFalsely : Prop := framesThereRow.holds Try.pinned (OpenSpec.ofChange framesThereWrong)

/-- 'stevedorelaw04.FramesTorn': WHATEVER THE INPUT: true; the input reads as it did. -/
def framesTornSpec : ChangeSpec := { name := "framesTorn", fn := fun _ => fun
  | [d1, d2, d3] => { results := [.lit (.bool true)], args := [d1, d2, d3] }
  | _ => none }
def framesTornRow : OpenClaim := { program := "ytojehachhfcfaaa", sum := "5f7606e00f56a892591700f464421d1ba82c7d22435f3835a19ff4d41c8562b6", func := "stevedore/stevedorelaw04.FramesTorn", spec := "framesTorn", inPlace := ["internal/abi.NoEscape"], apart := false }
def FramesTornSaid : Prop := framesTornRow.holds Try.pinned (OpenSpec.ofChange framesTornSpec)

/-- ITS FALSE NEIGHBOUR: 'it returns false'. Refute it at one input. -/
def framesTornWrong : ChangeSpec := { name := "framesTorn", fn := fun _ => fun
  | [d1, d2, d3] => { results := [.lit (.bool false)], args := [d1, d2, d3] }
  | _ => none }
def FramesTornWrongFalsely : Prop := framesTornRow.holds Try.pinned (OpenSpec.ofChange framesTornWrong)

/-- 'stevedorelaw04.FramesTells': WHATEVER THE INPUT: true; the input reads as it did. -/
def framesTellsSpec : ChangeSpec := { name := "framesTells", fn := fun _ => fun
  | [d] => { results := [.lit (.bool true)], args := [d] }
  | _ => none }
def framesTellsRow : OpenClaim := { program := "ytojehachhfcfaaa", sum := "5f7606e00f56a892591700f464421d1ba82c7d22435f3835a19ff4d41c8562b6", func := "stevedore/stevedorelaw04.FramesTells", spec := "framesTells", inPlace := ["internal/abi.NoEscape"], apart := false }
def FramesTellsSaid : Prop := framesTellsRow.holds Try.pinned (OpenSpec.ofChange framesTellsSpec)

/-- ITS FALSE NEIGHBOUR: 'it returns false'. Refute it at one input. -/
def framesTellsWrong : ChangeSpec := { name := "framesTells", fn := fun _ => fun
  | [d] => { results := [.lit (.bool false)], args := [d] }
  | _ => none }
def FramesTellsWrongFalsely : Prop := framesTellsRow.holds Try.pinned (OpenSpec.ofChange framesTellsWrong)

/-- 'stevedorelaw06.SlotsLasts': WHATEVER THE INPUT: true; the input reads as it did. -/
def slotsLastsSpec : ChangeSpec := { name := "slotsLasts", fn := fun _ => fun
  | [d1, d2] => { results := [.lit (.bool true)], args := [d1, d2] }
  | _ => none }
def slotsLastsRow : OpenClaim := { program := "ytojehachhfcfaaa", sum := "5f7606e00f56a892591700f464421d1ba82c7d22435f3835a19ff4d41c8562b6", func := "stevedore/stevedorelaw06.SlotsLasts", spec := "slotsLasts", inPlace := ["internal/abi.NoEscape"], apart := false }
def SlotsLastsSaid : Prop := slotsLastsRow.holds Try.pinned (OpenSpec.ofChange slotsLastsSpec)

/-- ITS FALSE NEIGHBOUR: 'it returns false'. Refute it at one input. -/
def slotsLastsWrong : ChangeSpec := { name := "slotsLasts", fn := fun _ => fun
  | [d1, d2] => { results := [.lit (.bool false)], args := [d1, d2] }
  | _ => none }
def SlotsLastsWrongFalsely : Prop := slotsLastsRow.holds Try.pinned (OpenSpec.ofChange slotsLastsWrong)

/-- 'stevedorelaw06.SlotsPlays': WHATEVER THE INPUT: true; the input reads as it did. -/
def slotsPlaysSpec : ChangeSpec := { name := "slotsPlays", fn := fun _ => fun
  | [d] => { results := [.lit (.bool true)], args := [d] }
  | _ => none }
def slotsPlaysRow : OpenClaim := { program := "ytojehachhfcfaaa", sum := "5f7606e00f56a892591700f464421d1ba82c7d22435f3835a19ff4d41c8562b6", func := "stevedore/stevedorelaw06.SlotsPlays", spec := "slotsPlays", inPlace := ["internal/abi.NoEscape"], apart := false }
def SlotsPlaysSaid : Prop := slotsPlaysRow.holds Try.pinned (OpenSpec.ofChange slotsPlaysSpec)

/-- ITS FALSE NEIGHBOUR: 'it returns false'. Refute it at one input. -/
def slotsPlaysWrong : ChangeSpec := { name := "slotsPlays", fn := fun _ => fun
  | [d] => { results := [.lit (.bool false)], args := [d] }
  | _ => none }
def SlotsPlaysWrongFalsely : Prop := slotsPlaysRow.holds Try.pinned (OpenSpec.ofChange slotsPlaysWrong)

/-- 'stevedorelaw06.SlotsNil': WHATEVER THE INPUT: true; the input reads as it did. -/
def slotsNilSpec : ChangeSpec := { name := "slotsNil", fn := fun _ => fun
  | [d1, d2] => { results := [.lit (.bool true)], args := [d1, d2] }
  | _ => none }
def slotsNilRow : OpenClaim := { program := "ytojehachhfcfaaa", sum := "5f7606e00f56a892591700f464421d1ba82c7d22435f3835a19ff4d41c8562b6", func := "stevedore/stevedorelaw06.SlotsNil", spec := "slotsNil", inPlace := ["internal/abi.NoEscape"], apart := false }
def SlotsNilSaid : Prop := slotsNilRow.holds Try.pinned (OpenSpec.ofChange slotsNilSpec)

/-- ITS FALSE NEIGHBOUR: 'it returns false'. Refute it at one input. -/
def slotsNilWrong : ChangeSpec := { name := "slotsNil", fn := fun _ => fun
  | [d1, d2] => { results := [.lit (.bool false)], args := [d1, d2] }
  | _ => none }
def SlotsNilWrongFalsely : Prop := slotsNilRow.holds Try.pinned (OpenSpec.ofChange slotsNilWrong)

/-- 'stevedorelaw06.SlotsSpare': WHATEVER THE INPUT: true; the input reads as it did. -/
def slotsSpareSpec : ChangeSpec := { name := "slotsSpare", fn := fun _ => fun
  | [d] => { results := [.lit (.bool true)], args := [d] }
  | _ => none }
def slotsSpareRow : OpenClaim := { program := "ytojehachhfcfaaa", sum := "5f7606e00f56a892591700f464421d1ba82c7d22435f3835a19ff4d41c8562b6", func := "stevedore/stevedorelaw06.SlotsSpare", spec := "slotsSpare", inPlace := ["internal/abi.NoEscape"], apart := false }
def SlotsSpareSaid : Prop := slotsSpareRow.holds Try.pinned (OpenSpec.ofChange slotsSpareSpec)

/-- ITS FALSE NEIGHBOUR: 'it returns false'. Refute it at one input. -/
def slotsSpareWrong : ChangeSpec := { name := "slotsSpare", fn := fun _ => fun
  | [d] => { results := [.lit (.bool false)], args := [d] }
  | _ => none }
def SlotsSpareWrongFalsely : Prop := slotsSpareRow.holds Try.pinned (OpenSpec.ofChange slotsSpareWrong)

/- THE SECOND FORM. 'bulk': how many values and letters a reading holds, each counted each time it is reached (what is shared counts as often as it is met; a slice's spare places count too). A statement '..UptoSaid' is the law's where the arguments, and the package variables that the reading takes, are together of bulk at most 1048576: NARROWER than '..Said'. Prove '..Said' where nothing that the law and all that it calls make is longer than what came in: it says more and counts as full. Else prove '..UptoSaid'. A law counts once. -/
mutual
def uptoBulk {H : Type} : DataW H → Nat
  | .lit (.string bytes) => bytes.length + 1
  | .lit _ => 1
  | .nil => 1
  | .ptr d => uptoBulk d + 1
  | .slice elems spare => uptoBulkAll elems + uptoBulkAll spare + 1
  | .agg parts => uptoBulkAll parts + 1
  | .iface _ d => uptoBulk d + 1
  | .map entries => uptoBulkEntries entries + 1
  | .held _ => 1
def uptoBulkAll {H : Type} : List (DataW H) → Nat
  | [] => 0
  | d :: r => uptoBulk d + uptoBulkAll r
def uptoBulkEntries {H : Type} : List (Lit × DataW H) → Nat
  | [] => 0
  | x :: r => uptoBulkEntry x + uptoBulkEntries r
def uptoBulkEntry {H : Type} : Lit × DataW H → Nat
  | (.string bytes, d) => bytes.length + uptoBulk d + 1
  | (_, d) => uptoBulk d + 1
 end
def uptoSmall : (H : Type) → List (DataW H) → Bool := fun _ ds => decide (uptoBulkAll ds ≤ 1048576)
def OpenSpec.upto (s : _root_.Go.ChangeSpec) : _root_.Go.OpenSpec := { _root_.Go.OpenSpec.ofChange s with cond := some uptoSmall }

/-- 'stevedorelaw04.FramesLays', WHERE WHAT IT READS IS OF BULK AT MOST 1048576: true; the input reads as it did. -/
def framesLaysUptoRow : OpenClaim := { program := "ytojehachhfcfaaa", sum := "5f7606e00f56a892591700f464421d1ba82c7d22435f3835a19ff4d41c8562b6", func := "stevedore/stevedorelaw04.FramesLays", spec := "framesLays", inPlace := ["internal/abi.NoEscape"], apart := false, narrowed := true }
def FramesLaysUptoSaid : Prop := framesLaysUptoRow.holds Try.pinned (OpenSpec.upto framesLaysSpec)

/-- 'stevedorelaw04.FramesJoins', WHERE WHAT IT READS IS OF BULK AT MOST 1048576: true; the input reads as it did. -/
def framesJoinsUptoRow : OpenClaim := { program := "ytojehachhfcfaaa", sum := "5f7606e00f56a892591700f464421d1ba82c7d22435f3835a19ff4d41c8562b6", func := "stevedore/stevedorelaw04.FramesJoins", spec := "framesJoins", inPlace := ["internal/abi.NoEscape"], apart := false, narrowed := true }
def FramesJoinsUptoSaid : Prop := framesJoinsUptoRow.holds Try.pinned (OpenSpec.upto framesJoinsSpec)

/-- 'stevedorelaw04.FramesBack', WHERE WHAT IT READS IS OF BULK AT MOST 1048576: true; the input reads as it did. -/
def framesBackUptoRow : OpenClaim := { program := "ytojehachhfcfaaa", sum := "5f7606e00f56a892591700f464421d1ba82c7d22435f3835a19ff4d41c8562b6", func := "stevedore/stevedorelaw04.FramesBack", spec := "framesBack", inPlace := ["internal/abi.NoEscape"], apart := false, narrowed := true }
def FramesBackUptoSaid : Prop := framesBackUptoRow.holds Try.pinned (OpenSpec.upto framesBackSpec)

/-- 'stevedorelaw04.FramesThere', WHERE WHAT IT READS IS OF BULK AT MOST 1048576: true; the input reads as it did. -/
def framesThereUptoRow : OpenClaim := { program := "ytojehachhfcfaaa", sum := "5f7606e00f56a892591700f464421d1ba82c7d22435f3835a19ff4d41c8562b6", func := "stevedore/stevedorelaw04.FramesThere", spec := "framesThere", inPlace := ["internal/abi.NoEscape"], apart := false, narrowed := true }
def FramesThereUptoSaid : Prop := framesThereUptoRow.holds Try.pinned (OpenSpec.upto framesThereSpec)

/-- 'stevedorelaw04.FramesTorn', WHERE WHAT IT READS IS OF BULK AT MOST 1048576: true; the input reads as it did. -/
def framesTornUptoRow : OpenClaim := { program := "ytojehachhfcfaaa", sum := "5f7606e00f56a892591700f464421d1ba82c7d22435f3835a19ff4d41c8562b6", func := "stevedore/stevedorelaw04.FramesTorn", spec := "framesTorn", inPlace := ["internal/abi.NoEscape"], apart := false, narrowed := true }
def FramesTornUptoSaid : Prop := framesTornUptoRow.holds Try.pinned (OpenSpec.upto framesTornSpec)

/-- 'stevedorelaw04.FramesTells', WHERE WHAT IT READS IS OF BULK AT MOST 1048576: true; the input reads as it did. -/
def framesTellsUptoRow : OpenClaim := { program := "ytojehachhfcfaaa", sum := "5f7606e00f56a892591700f464421d1ba82c7d22435f3835a19ff4d41c8562b6", func := "stevedore/stevedorelaw04.FramesTells", spec := "framesTells", inPlace := ["internal/abi.NoEscape"], apart := false, narrowed := true }
def FramesTellsUptoSaid : Prop := framesTellsUptoRow.holds Try.pinned (OpenSpec.upto framesTellsSpec)

/-- 'stevedorelaw06.SlotsLasts', WHERE WHAT IT READS IS OF BULK AT MOST 1048576: true; the input reads as it did. -/
def slotsLastsUptoRow : OpenClaim := { program := "ytojehachhfcfaaa", sum := "5f7606e00f56a892591700f464421d1ba82c7d22435f3835a19ff4d41c8562b6", func := "stevedore/stevedorelaw06.SlotsLasts", spec := "slotsLasts", inPlace := ["internal/abi.NoEscape"], apart := false, narrowed := true }
def SlotsLastsUptoSaid : Prop := slotsLastsUptoRow.holds Try.pinned (OpenSpec.upto slotsLastsSpec)

/-- 'stevedorelaw06.SlotsPlays', WHERE WHAT IT READS IS OF BULK AT MOST 1048576: true; the input reads as it did. -/
def slotsPlaysUptoRow : OpenClaim := { program := "ytojehachhfcfaaa", sum := "5f7606e00f56a892591700f464421d1ba82c7d22435f3835a19ff4d41c8562b6", func := "stevedore/stevedorelaw06.SlotsPlays", spec := "slotsPlays", inPlace := ["internal/abi.NoEscape"], apart := false, narrowed := true }
def SlotsPlaysUptoSaid : Prop := slotsPlaysUptoRow.holds Try.pinned (OpenSpec.upto slotsPlaysSpec)

/-- 'stevedorelaw06.SlotsNil', WHERE WHAT IT READS IS OF BULK AT MOST 1048576: true; the input reads as it did. -/
def slotsNilUptoRow : OpenClaim := { program := "ytojehachhfcfaaa", sum := "5f7606e00f56a892591700f464421d1ba82c7d22435f3835a19ff4d41c8562b6", func := "stevedore/stevedorelaw06.SlotsNil", spec := "slotsNil", inPlace := ["internal/abi.NoEscape"], apart := false, narrowed := true }
def SlotsNilUptoSaid : Prop := slotsNilUptoRow.holds Try.pinned (OpenSpec.upto slotsNilSpec)

/-- 'stevedorelaw06.SlotsSpare', WHERE WHAT IT READS IS OF BULK AT MOST 1048576: true; the input reads as it did. -/
def slotsSpareUptoRow : OpenClaim := { program := "ytojehachhfcfaaa", sum := "5f7606e00f56a892591700f464421d1ba82c7d22435f3835a19ff4d41c8562b6", func := "stevedore/stevedorelaw06.SlotsSpare", spec := "slotsSpare", inPlace := ["internal/abi.NoEscape"], apart := false, narrowed := true }
def SlotsSpareUptoSaid : Prop := slotsSpareUptoRow.holds Try.pinned (OpenSpec.upto slotsSpareSpec)

end Rows
end Go.Proofs.Ytojehachhfcfaaa
