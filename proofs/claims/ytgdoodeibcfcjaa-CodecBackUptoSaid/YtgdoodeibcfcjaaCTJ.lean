/- The types of a house's lists. -/
import Derived.Test.YtgdoodeibcfcjaaCMain
namespace Go.Proofs.Ytgdoodeibcfcjaa.Wire
open Go.RowKit
def TJ' (j : Nat) : TypeId := ([73, 76, 78, 80, 84, 87, 92, 95, 97, 99, 101, 103, 105, 107] : List TypeId).getD j 0
def SJ (j : Nat) : TypeId := ([22, 23, 24, 25, 26, 27, 28, 29, 30, 31, 32, 33, 34, 35] : List TypeId).getD j 0
end Go.Proofs.Ytgdoodeibcfcjaa.Wire
