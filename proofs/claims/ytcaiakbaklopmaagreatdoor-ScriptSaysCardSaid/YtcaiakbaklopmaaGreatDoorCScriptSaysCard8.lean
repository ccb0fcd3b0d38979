/- credenza/credenzalaw28.ScriptSays holds, tied to the program's text. (part 8: functions of the program as plain functions, and what is shown of them.) Conditions: as each theorem states; the last one has none. -/
import Derived.Test.YtcaiakbaklopmaaGreatDoorCScriptSaysCard1
import Derived.Test.YtcaiakbaklopmaaGreatDoorCScriptSaysCard2
import Derived.Test.YtcaiakbaklopmaaGreatDoorCScriptSaysCard3
import Derived.Test.YtcaiakbaklopmaaGreatDoorCScriptSaysCard4
import Derived.Test.YtcaiakbaklopmaaGreatDoorCScriptSaysCard5
import Derived.Test.YtcaiakbaklopmaaGreatDoorCScriptSaysCard6
import Derived.Test.YtcaiakbaklopmaaGreatDoorCScriptSaysCard7
namespace Go.Proofs.YtcaiakbaklopmaaGreatDoorD
open Go
set_option maxRecDepth 1000000
theorem awake28 (w : World) : Calls Tryz.prog 6 #[] w fun e w' => e = .returned (.bool true) ∧ w'.os = w.os ∧ w'.tape = w.tape ∧ w'.output = w.output ∧ w.heap.size ≤ w'.heap.size ∧ ∀ k, k < w.heap.size → w'.heap[k]? = w.heap[k]? := det_over fine sized ovT_ok (n := 3000) (f := 6) (args := #[]) (v := .bool true) rfl rfl (by kernel_rfl) w
end Go.Proofs.YtcaiakbaklopmaaGreatDoorD
