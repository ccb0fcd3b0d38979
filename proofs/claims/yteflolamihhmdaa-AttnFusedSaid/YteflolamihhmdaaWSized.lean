import Derived.SizedLaws
import Derived.ChangeSlices
namespace Go.Proofs.YteflolamihhmdaaW.PrintWords
open Go.ChangeShapes Go.WideShapes
end Go.Proofs.YteflolamihhmdaaW.PrintWords
