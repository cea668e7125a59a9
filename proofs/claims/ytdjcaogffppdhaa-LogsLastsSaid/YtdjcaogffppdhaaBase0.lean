-- Written by xprint.py, a program of this session, by the kit's printer.
import Derived.Test.YtdjcaogffppdhaaProg
import Derived.Below
import Derived.Deep.Draws
import Derived.Deep.AppendLies
import Derived.Maps.AppendAt
import Derived.OwnWalk
import Derived.Laws.BytesArg
import Derived.Laws.MakeOwn
import Derived.Laws.OwnMore
import Derived.Deep.OwnRows
import Derived.Tactics
import Derived.Lib.ConvBytes
import Derived.Laws.Slices
import Derived.WalkKit
import Derived.KernelRfl
import Derived.RowKit3
import Derived.Deep.LoopGhost
import Derived.Deep.QuietTactic
import Derived.BigQuiet
import Derived.WideLaws
import Derived.Deep.DeepCutAuto
import Derived.Deep.CutBlock
import Derived.Deep.RegionHeld3
import Derived.Laws.Rows
import Derived.Lib.AppendStr
import Derived.ArgAppend
import Derived.Laws.IdiomCopy
import Derived.OrdersHeld
import Derived.Laws.BitsLemmas
import Derived.RowKit
import Derived.Test.YtdjcaogffppdhaaWWords
import Derived.Test.YtdjcaogffppdhaaWLast
import Derived.Test.YtdjcaogffppdhaaWTab
import Derived.Test.YtdjcaogffppdhaaWFour
import Derived.Test.YtdjcaogffppdhaaWQPut
import Derived.Test.YtdjcaogffppdhaaWApart
import Derived.Test.YtdjcaogffppdhaaWArr
import Derived.Test.YtdjcaogffppdhaaWZeros
import Derived.Test.YtdjcaogffppdhaaWFoot
import Derived.Test.YtdjcaogffppdhaaWKept
import Derived.Test.YtdjcaogffppdhaaWShare
import Derived.Test.YtdjcaogffppdhaaWN
import Derived.Test.YtdjcaogffppdhaaWFootNe
import Derived.Test.YtdjcaogffppdhaaWAt
import Derived.Test.YtdjcaogffppdhaaWEqStruct
import Derived.Test.YtdjcaogffppdhaaWRepsOne
import Derived.Test.YtdjcaogffppdhaaWInv
import Derived.Test.YtdjcaogffppdhaaWInvWords
import Derived.Test.YtdjcaogffppdhaaWGuard
import Derived.Test.YtdjcaogffppdhaaWNEv
import Derived.Test.YtdjcaogffppdhaaWMore
namespace Go.Proofs.Ytdjcaogffppdhaa
open Go.RowKit Go.Proofs.YtdjcaogffppdhaaW.PrintWords Go.Proofs.YtdjcaogffppdhaaW.PrintLast Go.Proofs.YtdjcaogffppdhaaW.PrintMore
attribute [local go_sem] max2_int min2_int max_two min_two max_three min_three max_four min_four   -- for this text's walks alone
set_option linter.unusedVariables false
set_option linter.unusedSimpArgs false




-- the values' own types

end Go.Proofs.Ytdjcaogffppdhaa
