/- credenza/credenzalaw21.GenEquals holds. (part 5: functions of the program as plain functions, and what is shown of them.) Conditions: as each theorem states; the last one has none. -/
import Derived.Test.YtgapfnckannnfaaGreatCGenEquals1
import Derived.Test.YtgapfnckannnfaaGreatCGenEquals2
import Derived.Test.YtgapfnckannnfaaGreatCGenEquals3
import Derived.Test.YtgapfnckannnfaaGreatCGenEquals4
namespace Go.Proofs.YtgapfnckannnfaaGreatD
open Go
set_option maxRecDepth 1000000
theorem awake21 (w : World) : Calls Tryz.prog 4 #[] w fun e w' => e = .returned (.bool true) ∧ w'.os = w.os ∧ w'.tape = w.tape ∧ w'.output = w.output ∧ w.heap.size ≤ w'.heap.size ∧ ∀ k, k < w.heap.size → w'.heap[k]? = w.heap[k]? := det_over fine sized ovT_ok (n := 3000) (f := 4) (args := #[]) (v := .bool true) rfl rfl (by kernel_rfl) w
end Go.Proofs.YtgapfnckannnfaaGreatD
