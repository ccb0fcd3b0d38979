import Derived.SizedLaws
import Derived.ChangeSlices
namespace Go.Proofs.YtcaiakbaklopmaaGreatDoorW.PrintWords
open Go.ChangeShapes Go.WideShapes
end Go.Proofs.YtcaiakbaklopmaaGreatDoorW.PrintWords
