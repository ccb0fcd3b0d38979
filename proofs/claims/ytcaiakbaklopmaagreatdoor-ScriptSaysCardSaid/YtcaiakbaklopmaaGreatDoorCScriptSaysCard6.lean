/- credenza/credenzalaw28.ScriptSays holds, tied to the program's text. (part 6: functions of the program as plain functions, and what is shown of them.) Conditions: as each theorem states; the last one has none. -/
import Derived.Test.YtcaiakbaklopmaaGreatDoorProg
import Derived.KernelRfl
import Derived.Test.YtcaiakbaklopmaaGreatDoorCScriptSaysCard1
import Derived.Test.YtcaiakbaklopmaaGreatDoorCScriptSaysCard2
import Derived.Test.YtcaiakbaklopmaaGreatDoorCScriptSaysCard3
import Derived.Test.YtcaiakbaklopmaaGreatDoorCScriptSaysCard4
import Derived.Test.YtcaiakbaklopmaaGreatDoorCScriptSaysCard5
namespace Go.Proofs.YtcaiakbaklopmaaGreatDoorD
open Go
set_option maxRecDepth 1000000
def szAll (P : Program) : Bool := P.funcs.toList.all fun fn => match fn.body with | some c => szCode fn.ntmps c | none => true
theorem szAll_ok {P : Program} (h : szAll P = true) : Sized P := fun f fn c hf hc => by
  have := List.all_eq_true.1 h fn (by rw [Array.mem_toList_iff]; exact Array.mem_of_getElem? hf)
  rw [hc] at this
  exact this
theorem sized : Sized Tryz.prog := szAll_ok (by kernel_rfl)
def nnAll (P : Program) : Bool := P.funcs.toList.all fun fn => !(fn.name == "runtime.NumGoroutine")
theorem nnAll_ok {P : Program} (h : nnAll P = true) (f : FuncId) (fn : Func) (hf : P.funcs[f]? = some fn) : (fn.name == "runtime.NumGoroutine") = false := by
  have := List.all_eq_true.1 h fn (by rw [Array.mem_toList_iff]; exact Array.mem_of_getElem? hf)
  simpa using this
theorem nn : nnAll Tryz.prog = true := by kernel_rfl
theorem mixed : (Tryz.prog).follows .mixedOrders = true := by kernel_rfl
def extIds : List Nat := [100, 102, 188, 212, 214, 215, 220, 357, 403, 409, 414, 421, 422, 423, 425]
theorem extIds_ok : ((Tryz.prog).funcs.toList.zipIdx.all fun x => match x.1.body with | some _ => true | none => match xk x.1.name with | some _ => extIds.contains x.2 | none => true) = true := by kernel_rfl
def xsem (k : XK) : Array Value → Sem Value := match k with
    | .ld k => Extern.Atomic.loadT (.int k) | .st => Extern.Atomic.storeT | .add k => Extern.Atomic.update (Op.intArith .add) k true | .cas k => Extern.Atomic.casT (.int k) | .m0 m => (fun _ => do mark m; pure Extern.Race.none_) | .m1 m => Extern.Race.marked m | .cnt => Extern.BytealgCount.count | .idx => Extern.BytealgIndexByte.indexByte
theorem extOne {f : FuncId} {fn : Func} {k : XK} (hf : (Tryz.prog).funcs[f]? = some fn) (hk : xk fn.name = some k) {s : Array Value → Sem Value} {k' : XK} (e : ((Tryz.prog).funcs[f]?).map (fun fn => (Extern.findNext fn, Extern.find fn, xk fn.name)) = some (none, some s, some k')) (hs : s = xsem k') : Extern.findNext fn = none ∧ Extern.find fn = some (xsem k) := by
  rw [hf] at e
  simp only [Option.map_some, Option.some.injEq, Prod.mk.injEq] at e
  rw [hk] at e
  obtain ⟨h1, h2, h3⟩ := e
  cases h3
  exact ⟨h1, by rw [h2, hs]⟩
theorem e100 : ((Tryz.prog).funcs[100]?).map (fun fn => (Extern.findNext fn, Extern.find fn, xk fn.name)) = some (none, some Extern.BytealgCount.count, some .cnt) := by kernel_rfl
theorem e102 : ((Tryz.prog).funcs[102]?).map (fun fn => (Extern.findNext fn, Extern.find fn, xk fn.name)) = some (none, some Extern.BytealgIndexByte.indexByte, some .idx) := by kernel_rfl
theorem e188 : ((Tryz.prog).funcs[188]?).map (fun fn => (Extern.findNext fn, Extern.find fn, xk fn.name)) = some (none, some (Extern.Atomic.loadT (.int .i64)), some (.ld .i64)) := by kernel_rfl
theorem e212 : ((Tryz.prog).funcs[212]?).map (fun fn => (Extern.findNext fn, Extern.find fn, xk fn.name)) = some (none, some Extern.Atomic.storeT, some .st) := by kernel_rfl
theorem e214 : ((Tryz.prog).funcs[214]?).map (fun fn => (Extern.findNext fn, Extern.find fn, xk fn.name)) = some (none, some (Extern.Atomic.casT (.int .i64)), some (.cas .i64)) := by kernel_rfl
theorem e215 : ((Tryz.prog).funcs[215]?).map (fun fn => (Extern.findNext fn, Extern.find fn, xk fn.name)) = some (none, some (Extern.Atomic.loadT (.int .i32)), some (.ld .i32)) := by kernel_rfl
theorem e220 : ((Tryz.prog).funcs[220]?).map (fun fn => (Extern.findNext fn, Extern.find fn, xk fn.name)) = some (none, some (Extern.Atomic.update (Op.intArith .add) .i64 true), some (.add .i64)) := by kernel_rfl
theorem e357 : ((Tryz.prog).funcs[357]?).map (fun fn => (Extern.findNext fn, Extern.find fn, xk fn.name)) = some (none, some (Extern.Atomic.update (Op.intArith .add) .i32 true), some (.add .i32)) := by kernel_rfl
theorem e403 : ((Tryz.prog).funcs[403]?).map (fun fn => (Extern.findNext fn, Extern.find fn, xk fn.name)) = some (none, some (Extern.Atomic.loadT (.int .u32)), some (.ld .u32)) := by kernel_rfl
theorem e409 : ((Tryz.prog).funcs[409]?).map (fun fn => (Extern.findNext fn, Extern.find fn, xk fn.name)) = some (none, some (Extern.Atomic.casT (.int .i32)), some (.cas .i32)) := by kernel_rfl
theorem e414 : ((Tryz.prog).funcs[414]?).map (fun fn => (Extern.findNext fn, Extern.find fn, xk fn.name)) = some (none, some Extern.Atomic.storeT, some .st) := by kernel_rfl
theorem e421 : ((Tryz.prog).funcs[421]?).map (fun fn => (Extern.findNext fn, Extern.find fn, xk fn.name)) = some (none, some (fun _ => do mark .disable; pure Extern.Race.none_), some (.m0 .disable)) := by kernel_rfl
theorem e422 : ((Tryz.prog).funcs[422]?).map (fun fn => (Extern.findNext fn, Extern.find fn, xk fn.name)) = some (none, some (fun _ => do mark .enable; pure Extern.Race.none_), some (.m0 .enable)) := by kernel_rfl
theorem e423 : ((Tryz.prog).funcs[423]?).map (fun fn => (Extern.findNext fn, Extern.find fn, xk fn.name)) = some (none, some (Extern.Race.marked .acquire), some (.m1 .acquire)) := by kernel_rfl
theorem e425 : ((Tryz.prog).funcs[425]?).map (fun fn => (Extern.findNext fn, Extern.find fn, xk fn.name)) = some (none, some (Extern.Race.marked .releaseMerge), some (.m1 .releaseMerge)) := by kernel_rfl
theorem fine : Fine Tryz.prog := ⟨nnAll_ok nn, mixed, fun f fn k hf hb hk => by
  have h := List.all_eq_true.1 extIds_ok (fn, f) (by rw [List.mem_zipIdx_iff_getElem?]; simpa using hf)
  simp only [hb, hk] at h
  have h : f ∈ extIds := by simpa using h
  simp only [extIds, List.mem_cons, List.not_mem_nil, or_false] at h
  rcases h with rfl | rfl | rfl | rfl | rfl | rfl | rfl | rfl | rfl | rfl | rfl | rfl | rfl | rfl | rfl
  · exact extOne hf hk e100 rfl
  · exact extOne hf hk e102 rfl
  · exact extOne hf hk e188 rfl
  · exact extOne hf hk e212 rfl
  · exact extOne hf hk e214 rfl
  · exact extOne hf hk e215 rfl
  · exact extOne hf hk e220 rfl
  · exact extOne hf hk e357 rfl
  · exact extOne hf hk e403 rfl
  · exact extOne hf hk e409 rfl
  · exact extOne hf hk e414 rfl
  · exact extOne hf hk e421 rfl
  · exact extOne hf hk e422 rfl
  · exact extOne hf hk e423 rfl
  · exact extOne hf hk e425 rfl⟩
end Go.Proofs.YtcaiakbaklopmaaGreatDoorD
