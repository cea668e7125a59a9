-- Written by xprint.py, a program of this session, by the kit's printer.
import Derived.Test.YtcdndnebmonlfaaProg
import Derived.Below
import Derived.Deep.Draws
import Derived.Deep.AppendLies
import Derived.Maps.AppendAt
import Derived.OwnWalk
import Derived.Laws.BytesArg
import Derived.Laws.MakeOwn
import Derived.Laws.OwnMore
import Derived.Deep.OwnRows
import Derived.Tactics
import Derived.Lib.ConvBytes
import Derived.Laws.Slices
import Derived.WalkKit
import Derived.KernelRfl
import Derived.RowKit3
import Derived.Deep.LoopGhost
import Derived.Deep.QuietTactic
import Derived.BigQuiet
import Derived.WideLaws
import Derived.Deep.DeepCutAuto
import Derived.Deep.CutBlock
import Derived.Deep.RegionHeld3
import Derived.Laws.Rows
import Derived.Lib.AppendStr
import Derived.ArgAppend
import Derived.Laws.IdiomCopy
import Derived.OrdersHeld
import Derived.Laws.BitsLemmas
import Derived.RowKit
import Derived.Test.YtcdndnebmonlfaaPut
import Derived.Test.YtcdndnebmonlfaaRPut
import Derived.Test.YtcdndnebmonlfaaWWords
import Derived.Test.YtcdndnebmonlfaaWLast
import Derived.Test.YtcdndnebmonlfaaWTab
import Derived.Test.YtcdndnebmonlfaaWFour
import Derived.Test.YtcdndnebmonlfaaWQPut
import Derived.Test.YtcdndnebmonlfaaWApart
import Derived.Test.YtcdndnebmonlfaaWArr
import Derived.Test.YtcdndnebmonlfaaWZeros
import Derived.Test.YtcdndnebmonlfaaWFoot
import Derived.Test.YtcdndnebmonlfaaWKept
import Derived.Test.YtcdndnebmonlfaaWShare
import Derived.Test.YtcdndnebmonlfaaWN
import Derived.Test.YtcdndnebmonlfaaWFootNe
import Derived.Test.YtcdndnebmonlfaaWAt
import Derived.Test.YtcdndnebmonlfaaWEqStruct
import Derived.Test.YtcdndnebmonlfaaWRepsOne
import Derived.Test.YtcdndnebmonlfaaWInv
import Derived.Test.YtcdndnebmonlfaaWInvWords
import Derived.Test.YtcdndnebmonlfaaWGuard
import Derived.Test.YtcdndnebmonlfaaWNEv
import Derived.Test.YtcdndnebmonlfaaWMore
namespace Go.Proofs.Ytcdndnebmonlfaa.Print
open Go.RowKit Go.Proofs.YtcdndnebmonlfaaW.PrintWords Go.Proofs.YtcdndnebmonlfaaW.PrintLast Go.Proofs.YtcdndnebmonlfaaW.PrintMore
attribute [local go_sem] max2_int min2_int max_two min_two max_three min_three max_four min_four   -- for this text's walks alone
set_option linter.unusedVariables false
set_option linter.unusedSimpArgs false



def errW : Option Int → Value
  | none => .nilIface
  | some c => .iface 0 (.int .i64 c)
theorem errW_none : errW none = .nilIface := rfl
theorem errW_some (c : Int) : errW (some c) = .iface 0 (.int .i64 c) := rfl

theorem info3 : (Try.prog.info? 3).map (fun i => (i.zero, i.size, i.bytes)) = some (some (.int .i64 0), 1, 8) := by kernel_rfl
-- the values' own types

end Go.Proofs.Ytcdndnebmonlfaa.Print
