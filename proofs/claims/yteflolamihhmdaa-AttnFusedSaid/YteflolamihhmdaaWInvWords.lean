import Derived.Test.YteflolamihhmdaaWInv
import Derived.Test.YteflolamihhmdaaWFootNe
namespace Go.Proofs.YteflolamihhmdaaW.PrintWords
open Go.RowKit
end Go.Proofs.YteflolamihhmdaaW.PrintWords
namespace Go.Proofs.YteflolamihhmdaaW.PrintLast
section
variable {ops : Array Oper} {a : Act} {o og : Oper} {g : Nat} {t : Tmp} {u : Bool}
end
end Go.Proofs.YteflolamihhmdaaW.PrintLast
