import Derived.Test.YtcaiakbaklopmaaGreatDoorWInv
import Derived.Test.YtcaiakbaklopmaaGreatDoorWFootNe
namespace Go.Proofs.YtcaiakbaklopmaaGreatDoorW.PrintWords
open Go.RowKit
end Go.Proofs.YtcaiakbaklopmaaGreatDoorW.PrintWords
namespace Go.Proofs.YtcaiakbaklopmaaGreatDoorW.PrintLast
section
variable {ops : Array Oper} {a : Act} {o og : Oper} {g : Nat} {t : Tmp} {u : Bool}
end
end Go.Proofs.YtcaiakbaklopmaaGreatDoorW.PrintLast
