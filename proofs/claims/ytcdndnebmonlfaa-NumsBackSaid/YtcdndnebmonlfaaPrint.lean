-- Written by xprint.py, a program of this session, by the kit's printer.
import Derived.Test.YtcdndnebmonlfaaPrint0
import Derived.Test.YtcdndnebmonlfaaPrint1
import Derived.Test.YtcdndnebmonlfaaPrint2
import Derived.Test.YtcdndnebmonlfaaPrint3
import Derived.Test.YtcdndnebmonlfaaPrint4
import Derived.Test.YtcdndnebmonlfaaPrint5
namespace Go.Proofs.Ytcdndnebmonlfaa.Print
open Go.RowKit Go.Proofs.YtcdndnebmonlfaaW.PrintWords Go.Proofs.YtcdndnebmonlfaaW.PrintLast Go.Proofs.YtcdndnebmonlfaaW.PrintMore
attribute [local go_sem] max2_int min2_int max_two min_two max_three min_three max_four min_four   -- for this text's walks alone
set_option linter.unusedVariables false
set_option linter.unusedSimpArgs false

end Go.Proofs.Ytcdndnebmonlfaa.Print
