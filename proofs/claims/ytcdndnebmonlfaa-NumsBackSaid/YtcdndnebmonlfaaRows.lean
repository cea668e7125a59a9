/-
  No cell of these rows narrows 'for every input' (looked for: loops, veiled, ifaces, maps, wideKeys, modest, calm, conditions, laid).
  DERIVED. THE GIVEN ROWS OF THIS SEAT. 9 by the template 'for every input the law returns true; each argument reads behind the call as it read before'; 0 by the template 'total and deterministic' (their statements: YtcdndnebmonlfaaTotals.lean).
  GIVEN WITH THE SEED: the statements are not yours to turn. If you find one false, say at which input.
  Laid BY PROGRAM, IN A SANDBOX (cutbox-rows.mjs): the forced cells as the released guide's own fill.sh prints them over the translation eb1656942c94b7be… (all of the seat's roots in one cut). By AI agents, Wed Nov 11 2026. No macro, syntax, notation, axiom, sorry.
-/
import Derived.Test.YtcdndnebmonlfaaChecked
import GoSem.Claim
import GoSem.ClaimJoined
import GoSem.ClaimMapViews
import Derived.JoinedTies
import Derived.KernelRfl
namespace Go.Proofs.Ytcdndnebmonlfaa
/- THE CELL 'sum', in the pinned program and in every row, IS THE sha256 OF THE DUMP (.gsa) THAT YtcdndnebmonlfaaProg.lean LOADS. Nothing in Lean hashes anything: it is a label: what it is worth is what the hold of that sum in a sandbox is worth. -/
noncomputable def Try.pinned : Pinned := { name := "ytcdndnebmonlfaa", sum := "eb1656942c94b7be83b1e18b207c887dc626fbe7eca9401464dbba7adb51fc04", checked := Try.checked }
namespace Rows
def none {H : Type} : Left H := { results := [], args := [] }

/-- 'stevedorelaw01.NumsLays': WHATEVER THE INPUT: true; the input reads as it did. -/
def numsLaysSpec : ChangeSpec := { name := "numsLays", fn := fun _ => fun
  | [d1, d2] => { results := [.lit (.bool true)], args := [d1, d2] }
  | _ => none }
def numsLaysRow : OpenClaim := { program := "ytcdndnebmonlfaa", sum := "eb1656942c94b7be83b1e18b207c887dc626fbe7eca9401464dbba7adb51fc04", func := "stevedore/stevedorelaw01.NumsLays", spec := "numsLays", inPlace := ["internal/abi.NoEscape"], apart := false }
def NumsLaysSaid : Prop := numsLaysRow.holds Try.pinned (OpenSpec.ofChange numsLaysSpec)

/-- ITS FALSE NEIGHBOUR: 'it returns false'. Refute it at one input. -/
def numsLaysWrong : ChangeSpec := { name := "numsLays", fn := fun _ => fun
  | [d1, d2] => { results := [.lit (.bool false)], args := [d1, d2] }
  | _ => none }
def NumsLaysWrongFalsely : Prop := numsLaysRow.holds Try.pinned (OpenSpec.ofChange numsLaysWrong)

/-- 'stevedorelaw01.NumsTakes': WHATEVER THE INPUT: true; the input reads as it did. -/
def numsTakesSpec : ChangeSpec := { name := "numsTakes", fn := fun _ => fun
  | [d] => { results := [.lit (.bool true)], args := [d] }
  | _ => none }
def numsTakesRow : OpenClaim := { program := "ytcdndnebmonlfaa", sum := "eb1656942c94b7be83b1e18b207c887dc626fbe7eca9401464dbba7adb51fc04", func := "stevedore/stevedorelaw01.NumsTakes", spec := "numsTakes", inPlace := ["internal/abi.NoEscape"], apart := false }
def NumsTakesSaid : Prop := numsTakesRow.holds Try.pinned (OpenSpec.ofChange numsTakesSpec)

/-- ITS FALSE NEIGHBOUR: 'it returns false'. Refute it at one input. -/
def numsTakesWrong : ChangeSpec := { name := "numsTakes", fn := fun _ => fun
  | [d] => { results := [.lit (.bool false)], args := [d] }
  | _ => none }
def NumsTakesWrongFalsely : Prop := numsTakesRow.holds Try.pinned (OpenSpec.ofChange numsTakesWrong)

/-- 'stevedorelaw01.NumsBack': WHATEVER THE INPUT: true; the input reads as it did. -/
def numsBackSpec : ChangeSpec := { name := "numsBack", fn := fun _ => fun
  | [d1, d2, d3] => { results := [.lit (.bool true)], args := [d1, d2, d3] }
  | _ => none }
def numsBackRow : OpenClaim := { program := "ytcdndnebmonlfaa", sum := "eb1656942c94b7be83b1e18b207c887dc626fbe7eca9401464dbba7adb51fc04", func := "stevedore/stevedorelaw01.NumsBack", spec := "numsBack", inPlace := ["internal/abi.NoEscape"], apart := false }
def NumsBackSaid : Prop := numsBackRow.holds Try.pinned (OpenSpec.ofChange numsBackSpec)

/-- ITS FALSE NEIGHBOUR: 'it returns false'. Refute it at one input. -/
def numsBackWrong : ChangeSpec := { name := "numsBack", fn := fun _ => fun
  | [d1, d2, d3] => { results := [.lit (.bool false)], args := [d1, d2, d3] }
  | _ => none }
def NumsBackWrongFalsely : Prop := numsBackRow.holds Try.pinned (OpenSpec.ofChange numsBackWrong)

/-- 'stevedorelaw01.NumsThere': WHATEVER THE INPUT: true; the input reads as it did. -/
def numsThereSpec : ChangeSpec := { name := "numsThere", fn := fun _ => fun
  | [d] => { results := [.lit (.bool true)], args := [d] }
  | _ => none }
def numsThereRow : OpenClaim := { program := "ytcdndnebmonlfaa", sum := "eb1656942c94b7be83b1e18b207c887dc626fbe7eca9401464dbba7adb51fc04", func := "stevedore/stevedorelaw01.NumsThere", spec := "numsThere", inPlace := ["internal/abi.NoEscape"], apart := false }
def NumsThereSaid : Prop := numsThereRow.holds Try.pinned (OpenSpec.ofChange numsThereSpec)

/-- ITS FALSE NEIGHBOUR: 'it returns false'. Refute it at one input. -/
def numsThereWrong : ChangeSpec := { name := "numsThere", fn := fun _ => fun
  | [d] => { results := [.lit (.bool false)], args := [d] }
  | _ => none }
def NumsThereWrongFalsely : Prop := numsThereRow.holds Try.pinned (OpenSpec.ofChange numsThereWrong)

/-- 'stevedorelaw01.NumsNames': WHATEVER THE INPUT: true; the input reads as it did. -/
def numsNamesSpec : ChangeSpec := { name := "numsNames", fn := fun _ => fun
  | [d] => { results := [.lit (.bool true)], args := [d] }
  | _ => none }
def numsNamesRow : OpenClaim := { program := "ytcdndnebmonlfaa", sum := "eb1656942c94b7be83b1e18b207c887dc626fbe7eca9401464dbba7adb51fc04", func := "stevedore/stevedorelaw01.NumsNames", spec := "numsNames", inPlace := ["internal/abi.NoEscape"], apart := false }
def NumsNamesSaid : Prop := numsNamesRow.holds Try.pinned (OpenSpec.ofChange numsNamesSpec)

/-- ITS FALSE NEIGHBOUR: 'it returns false'. Refute it at one input. -/
def numsNamesWrong : ChangeSpec := { name := "numsNames", fn := fun _ => fun
  | [d] => { results := [.lit (.bool false)], args := [d] }
  | _ => none }
def NumsNamesWrongFalsely : Prop := numsNamesRow.holds Try.pinned (OpenSpec.ofChange numsNamesWrong)

/-- 'stevedorelaw01.NumsSums': WHATEVER THE INPUT: true; the input reads as it did. -/
def numsSumsSpec : ChangeSpec := { name := "numsSums", fn := fun _ => fun
  | [d1, d2] => { results := [.lit (.bool true)], args := [d1, d2] }
  | _ => none }
def numsSumsRow : OpenClaim := { program := "ytcdndnebmonlfaa", sum := "eb1656942c94b7be83b1e18b207c887dc626fbe7eca9401464dbba7adb51fc04", func := "stevedore/stevedorelaw01.NumsSums", spec := "numsSums", inPlace := ["internal/abi.NoEscape"], apart := false }
def NumsSumsSaid : Prop := numsSumsRow.holds Try.pinned (OpenSpec.ofChange numsSumsSpec)

/-- ITS FALSE NEIGHBOUR: 'it returns false'. Refute it at one input. -/
def numsSumsWrong : ChangeSpec := { name := "numsSums", fn := fun _ => fun
  | [d1, d2] => { results := [.lit (.bool false)], args := [d1, d2] }
  | _ => none }
def NumsSumsWrongFalsely : Prop := numsSumsRow.holds Try.pinned (OpenSpec.ofChange numsSumsWrong)

/-- 'stevedorelaw01.NumsPuts': WHATEVER THE INPUT: true; the input reads as it did. -/
def numsPutsSpec : ChangeSpec := { name := "numsPuts", fn := fun _ => fun
  | [d] => { results := [.lit (.bool true)], args := [d] }
  | _ => none }
def numsPutsRow : OpenClaim := { program := "ytcdndnebmonlfaa", sum := "eb1656942c94b7be83b1e18b207c887dc626fbe7eca9401464dbba7adb51fc04", func := "stevedore/stevedorelaw01.NumsPuts", spec := "numsPuts", inPlace := ["internal/abi.NoEscape"], apart := false }
def NumsPutsSaid : Prop := numsPutsRow.holds Try.pinned (OpenSpec.ofChange numsPutsSpec)

/-- ITS FALSE NEIGHBOUR: 'it returns false'. Refute it at one input. -/
def numsPutsWrong : ChangeSpec := { name := "numsPuts", fn := fun _ => fun
  | [d] => { results := [.lit (.bool false)], args := [d] }
  | _ => none }
def NumsPutsWrongFalsely : Prop := numsPutsRow.holds Try.pinned (OpenSpec.ofChange numsPutsWrong)

/-- 'stevedorelaw01.NumsNaming': WHATEVER THE INPUT: true; the input reads as it did. -/
def numsNamingSpec : ChangeSpec := { name := "numsNaming", fn := fun _ => fun
  | [d] => { results := [.lit (.bool true)], args := [d] }
  | _ => none }
def numsNamingRow : OpenClaim := { program := "ytcdndnebmonlfaa", sum := "eb1656942c94b7be83b1e18b207c887dc626fbe7eca9401464dbba7adb51fc04", func := "stevedore/stevedorelaw01.NumsNaming", spec := "numsNaming", inPlace := ["internal/abi.NoEscape"], apart := false }
def NumsNamingSaid : Prop := numsNamingRow.holds Try.pinned (OpenSpec.ofChange numsNamingSpec)

/-- ITS FALSE NEIGHBOUR: 'it returns false'. Refute it at one input. -/
def numsNamingWrong : ChangeSpec := { name := "numsNaming", fn := fun _ => fun
  | [d] => { results := [.lit (.bool false)], args := [d] }
  | _ => none }
def NumsNamingWrongFalsely : Prop := numsNamingRow.holds Try.pinned (OpenSpec.ofChange numsNamingWrong)

/-- 'stevedorelaw01.NumsSumming': WHATEVER THE INPUT: true; the input reads as it did. -/
def numsSummingSpec : ChangeSpec := { name := "numsSumming", fn := fun _ => fun
  | [d] => { results := [.lit (.bool true)], args := [d] }
  | _ => none }
def numsSummingRow : OpenClaim := { program := "ytcdndnebmonlfaa", sum := "eb1656942c94b7be83b1e18b207c887dc626fbe7eca9401464dbba7adb51fc04", func := "stevedore/stevedorelaw01.NumsSumming", spec := "numsSumming", inPlace := ["internal/abi.NoEscape"], apart := false }
def NumsSummingSaid : Prop := numsSummingRow.holds Try.pinned (OpenSpec.ofChange numsSummingSpec)

/-- ITS FALSE NEIGHBOUR: 'it returns false'. Refute it at one input. -/
def numsSummingWrong : ChangeSpec := { name := "numsSumming", fn := fun _ => fun
  | [d] => { results := [.lit (.bool false)], args := [d] }
  | _ => none }
def NumsSummingWrongFalsely : Prop := numsSummingRow.holds Try.pinned (OpenSpec.ofChange numsSummingWrong)

/- THE SECOND FORM. 'bulk': how many values and letters a reading holds, each counted each time it is reached (what is shared counts as often as it is met; a slice's spare places count too). A statement '..UptoSaid' is the law's where the arguments, and the package variables that the reading takes, are together of bulk at most 1048576: NARROWER than '..Said'. Prove '..Said' where nothing that the law and all that it calls make is longer than what came in: it says more and counts as full. Else prove '..UptoSaid'. A law counts once. -/
mutual
def uptoBulk {H : Type} : DataW H → Nat
  | .lit (.string bytes) => bytes.length + 1
  | .lit _ => 1
  | .nil => 1
  | .ptr d => uptoBulk d + 1
  | .slice elems spare => uptoBulkAll elems + uptoBulkAll spare + 1
  | .agg parts => uptoBulkAll parts + 1
  | .iface _ d => uptoBulk d + 1
  | .map entries => uptoBulkEntries entries + 1
  | .held _ => 1
def uptoBulkAll {H : Type} : List (DataW H) → Nat
  | [] => 0
  | d :: r => uptoBulk d + uptoBulkAll r
def uptoBulkEntries {H : Type} : List (Lit × DataW H) → Nat
  | [] => 0
  | x :: r => uptoBulkEntry x + uptoBulkEntries r
def uptoBulkEntry {H : Type} : Lit × DataW H → Nat
  | (.string bytes, d) => bytes.length + uptoBulk d + 1
  | (_, d) => uptoBulk d + 1
 end
def uptoSmall : (H : Type) → List (DataW H) → Bool := fun _ ds => decide (uptoBulkAll ds ≤ 1048576)
def OpenSpec.upto (s : _root_.Go.ChangeSpec) : _root_.Go.OpenSpec := { _root_.Go.OpenSpec.ofChange s with cond := some uptoSmall }

/-- 'stevedorelaw01.NumsLays', WHERE WHAT IT READS IS OF BULK AT MOST 1048576: true; the input reads as it did. -/
def numsLaysUptoRow : OpenClaim := { program := "ytcdndnebmonlfaa", sum := "eb1656942c94b7be83b1e18b207c887dc626fbe7eca9401464dbba7adb51fc04", func := "stevedore/stevedorelaw01.NumsLays", spec := "numsLays", inPlace := ["internal/abi.NoEscape"], apart := false, narrowed := true }
def NumsLaysUptoSaid : Prop := numsLaysUptoRow.holds Try.pinned (OpenSpec.upto numsLaysSpec)

/-- 'stevedorelaw01.NumsTakes', WHERE WHAT IT READS IS OF BULK AT MOST 1048576: true; the input reads as it did. -/
def numsTakesUptoRow : OpenClaim := { program := "ytcdndnebmonlfaa", sum := "eb1656942c94b7be83b1e18b207c887dc626fbe7eca9401464dbba7adb51fc04", func := "stevedore/stevedorelaw01.NumsTakes", spec := "numsTakes", inPlace := ["internal/abi.NoEscape"], apart := false, narrowed := true }
def NumsTakesUptoSaid : Prop := numsTakesUptoRow.holds Try.pinned (OpenSpec.upto numsTakesSpec)

/-- 'stevedorelaw01.NumsBack', WHERE WHAT IT READS IS OF BULK AT MOST 1048576: true; the input reads as it did. -/
def numsBackUptoRow : OpenClaim := { program := "ytcdndnebmonlfaa", sum := "eb1656942c94b7be83b1e18b207c887dc626fbe7eca9401464dbba7adb51fc04", func := "stevedore/stevedorelaw01.NumsBack", spec := "numsBack", inPlace := ["internal/abi.NoEscape"], apart := false, narrowed := true }
def NumsBackUptoSaid : Prop := numsBackUptoRow.holds Try.pinned (OpenSpec.upto numsBackSpec)

/-- 'stevedorelaw01.NumsThere', WHERE WHAT IT READS IS OF BULK AT MOST 1048576: true; the input reads as it did. -/
def numsThereUptoRow : OpenClaim := { program := "ytcdndnebmonlfaa", sum := "eb1656942c94b7be83b1e18b207c887dc626fbe7eca9401464dbba7adb51fc04", func := "stevedore/stevedorelaw01.NumsThere", spec := "numsThere", inPlace := ["internal/abi.NoEscape"], apart := false, narrowed := true }
def NumsThereUptoSaid : Prop := numsThereUptoRow.holds Try.pinned (OpenSpec.upto numsThereSpec)

/-- 'stevedorelaw01.NumsNames', WHERE WHAT IT READS IS OF BULK AT MOST 1048576: true; the input reads as it did. -/
def numsNamesUptoRow : OpenClaim := { program := "ytcdndnebmonlfaa", sum := "eb1656942c94b7be83b1e18b207c887dc626fbe7eca9401464dbba7adb51fc04", func := "stevedore/stevedorelaw01.NumsNames", spec := "numsNames", inPlace := ["internal/abi.NoEscape"], apart := false, narrowed := true }
def NumsNamesUptoSaid : Prop := numsNamesUptoRow.holds Try.pinned (OpenSpec.upto numsNamesSpec)

/-- 'stevedorelaw01.NumsSums', WHERE WHAT IT READS IS OF BULK AT MOST 1048576: true; the input reads as it did. -/
def numsSumsUptoRow : OpenClaim := { program := "ytcdndnebmonlfaa", sum := "eb1656942c94b7be83b1e18b207c887dc626fbe7eca9401464dbba7adb51fc04", func := "stevedore/stevedorelaw01.NumsSums", spec := "numsSums", inPlace := ["internal/abi.NoEscape"], apart := false, narrowed := true }
def NumsSumsUptoSaid : Prop := numsSumsUptoRow.holds Try.pinned (OpenSpec.upto numsSumsSpec)

/-- 'stevedorelaw01.NumsPuts', WHERE WHAT IT READS IS OF BULK AT MOST 1048576: true; the input reads as it did. -/
def numsPutsUptoRow : OpenClaim := { program := "ytcdndnebmonlfaa", sum := "eb1656942c94b7be83b1e18b207c887dc626fbe7eca9401464dbba7adb51fc04", func := "stevedore/stevedorelaw01.NumsPuts", spec := "numsPuts", inPlace := ["internal/abi.NoEscape"], apart := false, narrowed := true }
def NumsPutsUptoSaid : Prop := numsPutsUptoRow.holds Try.pinned (OpenSpec.upto numsPutsSpec)

/-- 'stevedorelaw01.NumsNaming', WHERE WHAT IT READS IS OF BULK AT MOST 1048576: true; the input reads as it did. -/
def numsNamingUptoRow : OpenClaim := { program := "ytcdndnebmonlfaa", sum := "eb1656942c94b7be83b1e18b207c887dc626fbe7eca9401464dbba7adb51fc04", func := "stevedore/stevedorelaw01.NumsNaming", spec := "numsNaming", inPlace := ["internal/abi.NoEscape"], apart := false, narrowed := true }
def NumsNamingUptoSaid : Prop := numsNamingUptoRow.holds Try.pinned (OpenSpec.upto numsNamingSpec)

/-- 'stevedorelaw01.NumsSumming', WHERE WHAT IT READS IS OF BULK AT MOST 1048576: true; the input reads as it did. -/
def numsSummingUptoRow : OpenClaim := { program := "ytcdndnebmonlfaa", sum := "eb1656942c94b7be83b1e18b207c887dc626fbe7eca9401464dbba7adb51fc04", func := "stevedore/stevedorelaw01.NumsSumming", spec := "numsSumming", inPlace := ["internal/abi.NoEscape"], apart := false, narrowed := true }
def NumsSummingUptoSaid : Prop := numsSummingUptoRow.holds Try.pinned (OpenSpec.upto numsSummingSpec)

end Rows
end Go.Proofs.Ytcdndnebmonlfaa
