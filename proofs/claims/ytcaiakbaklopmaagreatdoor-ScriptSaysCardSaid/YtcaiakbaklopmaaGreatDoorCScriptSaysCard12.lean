/- credenza/credenzalaw28.ScriptSays holds, tied to the program's text. Conditions: as each theorem states; the last one has none. -/
import Derived.Test.YtcaiakbaklopmaaGreatDoorCards
import Derived.Test.YtcaiakbaklopmaaGreatDoorTie
import Derived.WalkKit
import Derived.ProofKit
import Derived.OpenShut
import Derived.ShutString
import Derived.ChangeOld
import Derived.Below
import Derived.SizedLaws
import Derived.Lay
import Derived.LaidOnce
import Derived.SevenTiedAt
import Derived.Test.YtcaiakbaklopmaaGreatDoorWSized
import Derived.Test.YtcaiakbaklopmaaGreatDoorCScriptSaysCard1
import Derived.Test.YtcaiakbaklopmaaGreatDoorCScriptSaysCard2
import Derived.Test.YtcaiakbaklopmaaGreatDoorCScriptSaysCard3
import Derived.Test.YtcaiakbaklopmaaGreatDoorCScriptSaysCard4
import Derived.Test.YtcaiakbaklopmaaGreatDoorCScriptSaysCard5
import Derived.Test.YtcaiakbaklopmaaGreatDoorCScriptSaysCard6
import Derived.Test.YtcaiakbaklopmaaGreatDoorCScriptSaysCard7
import Derived.Test.YtcaiakbaklopmaaGreatDoorCScriptSaysCard8
import Derived.Test.YtcaiakbaklopmaaGreatDoorCScriptSaysCard9
import Derived.Test.YtcaiakbaklopmaaGreatDoorCScriptSaysCard10
import Derived.Test.YtcaiakbaklopmaaGreatDoorCScriptSaysCard11
namespace Go.Proofs.YtcaiakbaklopmaaGreatDoor.scriptSays
open Go.ChangeShapes Go.WideShapes Go.ChangeAt Go.RowKit Go.Proofs.YtcaiakbaklopmaaGreatDoorW.PrintWords Go.Proofs.YtcaiakbaklopmaaGreatDoorW.PrintLast
open Go.ChangeMaps (open_string shut_string)
set_option linter.unusedVariables false
theorem own : ownKnob Tryz.prog.godebug = none := by kernel_rfl
theorem laidOut : laidOutB Tryz.prog = true := by kernel_rfl
set_option maxRecDepth 100000 in
theorem lifted (os : Os) (started : os.Started) (H : Type) (enc : TypeId × Value → H) :
    ReturnsInHanded {} Tryz.checked os 4 .any (fun w args => (Rows.scriptSaysSpec.pre enc Tryz.prog Tryz.f4 [] false w args ∧ laidMetH Tryz.prog laidL w) ∧ sizedMet enc Tryz.prog Tryz.f4 (OpenSpec.ofChange Rows.scriptSaysSpec) false w args) (Rows.scriptSaysSpec.post enc Tryz.prog Tryz.f4 false true false false) := by
  refine wrap_shaped (C := Tryz.checked) (X := fun w _ => laidMetH Tryz.prog laidL w) (fun _ _ _ hh h => h.of_heap hh) own started (by kernel_rfl) Tryz.func4
    (ChangeSpec.witness_shaped (enc := enc) (C := Tryz.checked) (os := os) (X := fun w _ => laidMetH Tryz.prog laidL w) false (World.laidAll Tryz.prog os laidL) #[.agg #[.int .i64 0, .int .u32 0, .int .i64 0, .int .i64 0, .int .i64 0], .agg #[.int .i64 0, .int .u32 0, .int .i64 0, .int .i64 0, .int .i64 0]] 8 (World.laidAll_os _ _ _)
      (World.shaped_of_ZipB (by kernel_rfl) (by kernel_rfl)) (by kernel_rfl) (by kernel_rfl) (by kernel_rfl)
      (by rw [MakeChecks.laidMetH_plain _ _ _ (by kernel_rfl)]; exact laidMet_laidAll _ (by kernel_rfl) (by kernel_rfl))) ?_
  intro W base args ds gs before hval0 hW hsz0 hL hsh
  have hsz : (DataW.weightsEach Tryz.prog (Tryz.f4.params.toList ++ Rows.scriptSaysSpec.plain.varTypes Tryz.prog) (ds ++ gs)).all (· ≤ reachBytes) = true := hsz0
  have hG := gl_of_laid hL hsh
  have hval : ∀ (j : Nat) t v, Tryz.f4.params[j]? = some t → args[j]? = some v → Value.okWide Tryz.prog W .any base t v := hval0
  have hW' := hW
  obtain ⟨p, q, hA0, hV, rfl, hfz, hnd⟩ := hW
  have hA : DataW.TrodAll enc Tryz.prog W 0 (fun _ => true) true Tryz.f4.params.toList args.toList ds p := hA0
  rw [Tryz.params4] at hA hval hsz
  obtain ⟨v0, vs0, d0, ds0, p0, q0, hargs, rfl, rfl, h0, r0⟩ := trodAll_cons hA
  obtain ⟨v1, vs1, d1, ds1, p1, q1, rfl, rfl, rfl, h1, r1⟩ := trodAll_cons r0
  obtain ⟨rfl, rfl, rfl⟩ := trodAll_nil r1
  obtain rfl : args = #[v0, v1] := by cases args; simp_all
  obtain ⟨rfl, rfl⟩ := trodVars_none hV
  have k0 := h0
  have lt0 : ∀ x ∈ p0, x.block < W.heap.size := by obtain ⟨m, hm⟩ := k0; exact DataW.trod_lt m _ _ _ hm
  obtain ⟨x00, x01, x02, x03, x04, rfl, lo0, hi0⟩ := open_event (hval 0 32 v0 rfl rfl) h0
  have k1 := h1
  have lt1 : ∀ x ∈ p1, x.block < W.heap.size := by obtain ⟨m, hm⟩ := k1; exact DataW.trod_lt m _ _ _ hm
  obtain ⟨x10, x11, x12, x13, x14, rfl, lo1, hi1⟩ := open_event (hval 1 32 v1 rfl rfl) h1
  clear hA0 hval0 hsz0 hsz
  obtain ⟨k, hk⟩ := Pure.ScriptSays_row x00 x01 x02 x03 x04 x10 x11 x12 x13 x14 ⟨lo0, hi0⟩ ⟨lo1, hi1⟩
  refine (Q.credenzalaw28_ScriptSays.calls k x00 x01 x02 x03 x04 x10 x11 x12 x13 x14 true W  hG hk).mono ?_
  rintro e W' ⟨rfl, bel⟩
  exact ⟨_, rfl, _, _, _, [], _, [], hW', trodAll_mk1 (shut_bool Tryz.underlying4 _), (trodAll_cons_mk (Below.trod laidOut (by kernel_rfl) (of_decide_eq_true (by kernel_rfl)) k0 bel lt0) (trodAll_cons_mk (Below.trod laidOut (by kernel_rfl) (of_decide_eq_true (by kernel_rfl)) k1 bel lt1) trodAll_mk0)), rfl, bel.frame _, fun h => by cases h⟩
theorem over : Rows.scriptSaysRow.holds Tryz.pinned (OpenSpec.ofChange Rows.scriptSaysSpec) :=
  OpenClaim.holds_of_wide 4 Tryz.f4 rfl rfl rfl rfl rfl rfl rfl ⟨rfl, rfl, rfl, rfl, rfl⟩ rfl rfl rfl rfl rfl (by kernel_rfl) Tryz.func4 scriptSaysF.all
    (of_decide_eq_true (by kernel_rfl)) (by unfold Func.isWrapper; first | (rw [if_pos (by decide +kernel)]; kernel_rfl) | (rw [if_neg (by decide +kernel)]; exact ⟨rfl, rfl⟩))
    (fun os started H enc _ => lifted os started H enc)
theorem card_holds : Claim7.holds Tryz.pinned (.plain (OpenSpec.ofChange Rows.scriptSaysSpec)) Rows.scriptSaysCard :=
  Claim7.holds_tied_plain_at .later [] [.data, .data, .data, .data, .sentinel, .sentinel, .pinned] true (true, "ff8bf25f4e3e64c6262ef0d74aa129505a468b24fc801cd3b92e7190934e8971") true over (fun _ h => by cases h) (by kernel_rfl) (fun _ h => by cases h) scriptSays_row_tie rfl ⟨rfl, rfl⟩ (by kernel_rfl) rfl
    (fun f fn hf hfn => by
      obtain rfl : f = 4 := Option.some.inj ((show Tryz.prog.funcNamed "credenza/credenzalaw28.ScriptSays" = some 4 by kernel_rfl).symm.trans hf) |>.symm
      obtain rfl : fn = Tryz.f4 := (Option.some.inj (Tryz.func4.symm.trans hfn)).symm
      exact ⟨by kernel_rfl, fun j t ht => by
        rw [Tryz.params4] at ht
        have hm : t ∈ [32, 32] := by simpa using Array.mem_of_getElem? ht
        have hall : ([32, 32].all fun u => !Tryz.prog.wantsStandIn u) = true := by kernel_rfl
        exact (show Tryz.prog.wantsStandIn t = false by simpa using List.all_eq_true.1 hall t hm)⟩)
    (goesBy_none rfl (by kernel_rfl))
end Go.Proofs.YtcaiakbaklopmaaGreatDoor.scriptSays
namespace Go.Proofs.YtcaiakbaklopmaaGreatDoor
theorem scriptSays_holds : Rows.ScriptSaysCardSaid := scriptSays.card_holds
end Go.Proofs.YtcaiakbaklopmaaGreatDoor
