/- The types of a house's lists. -/
import Derived.Test.YtgdoodeibcfcjaaGreatCMain
namespace Go.Proofs.YtgdoodeibcfcjaaGreat.Wire
open Go.RowKit
def TJ' (j : Nat) : TypeId := ([59, 62, 65, 68, 73, 76, 82, 85, 88, 91, 94, 97, 100, 103] : List TypeId).getD j 0
def SJ (j : Nat) : TypeId := ([22, 23, 24, 25, 26, 27, 28, 29, 30, 31, 32, 33, 34, 35] : List TypeId).getD j 0
end Go.Proofs.YtgdoodeibcfcjaaGreat.Wire
