import Derived.Test.YtcaiakbaklopmaaGreatDoorWWords
namespace Go.Proofs.YtcaiakbaklopmaaGreatDoorW.PrintWords
open Go.RowKit
section
variable {P : Program} {ops : Array Oper} {rest : List Oper} {o : Oper} {a : Act} {Q : Exit → Act → World → Prop} {W : World}
end
end Go.Proofs.YtcaiakbaklopmaaGreatDoorW.PrintWords
