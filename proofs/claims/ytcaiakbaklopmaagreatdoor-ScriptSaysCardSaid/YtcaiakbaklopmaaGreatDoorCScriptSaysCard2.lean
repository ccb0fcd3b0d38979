/- credenza/credenzalaw28.ScriptSays holds, tied to the program's text. (part 2: functions of the program as plain functions, and what is shown of them.) Conditions: as each theorem states; the last one has none. -/
import Derived.Test.YtcaiakbaklopmaaGreatDoorRows
import Derived.JoinedOf
import Derived.SevenTiedAt
import Derived.Test.YtcaiakbaklopmaaGreatDoorCScriptSaysCard1
namespace Go.Proofs.YtcaiakbaklopmaaGreatDoor.scriptSaysF
open Go
theorem k0 : (Rows.scriptSaysRow.wf (OpenSpec.ofChange Rows.scriptSaysSpec)) = true := by kernel_rfl
theorem k1 : (laidOutB Tryz.pinned.checked.prog) = true := by kernel_rfl
theorem k2 : (mapsRowed Tryz.pinned.checked.prog) = true := by kernel_rfl
theorem k3 : (Tryz.f4.params.all (Tryz.pinned.checked.prog.readableRec ·)) = true := by kernel_rfl
theorem k4 : (namedTie Tryz.pinned.checked.prog Rows.scriptSaysRow.named Rows.scriptSaysSpec.vars) = true := by kernel_rfl
theorem k5 : (Rows.scriptSaysRow.stops == []) = true := by kernel_rfl
theorem k6 : (Tryz.pinned.checked.prog.stops == []) = true := by kernel_rfl
theorem k7 : (Rows.scriptSaysRow.knobs == []) = true := by kernel_rfl
theorem k8 : (Tryz.pinned.checked.prog.stopKnobs == []) = true := by kernel_rfl
theorem k9 : (Rows.scriptSaysRow.inPlace == Tryz.pinned.checked.prog.inPlace 4) = true := by kernel_rfl
theorem k10 : (Rows.scriptSaysRow.unfollowed == Tryz.pinned.checked.prog.unfollowed 4) = true := by kernel_rfl
theorem k11 : (Rows.scriptSaysRow.recurses == Tryz.pinned.checked.prog.recurses 4) = true := by kernel_rfl
theorem k12 : (Rows.scriptSaysRow.named == Tryz.pinned.checked.prog.varsNamed 4) = true := by kernel_rfl
theorem k13 : (Rows.scriptSaysRow.maps == (Tryz.f4.params.toList ++ Rows.scriptSaysSpec.plain.varTypes Tryz.pinned.checked.prog).any (Tryz.pinned.checked.prog.mapsRec ·)) = true := by kernel_rfl
theorem k14 : (Rows.scriptSaysRow.ifaces == (Tryz.f4.params.toList ++ Rows.scriptSaysSpec.plain.varTypes Tryz.pinned.checked.prog).any (Tryz.pinned.checked.prog.ifacesRec ·)) = true := by kernel_rfl
theorem k15 : (Rows.scriptSaysRow.mapsOut == Tryz.pinned.checked.prog.mapsAmong Tryz.f4.resultTypes.toList) = true := by kernel_rfl
theorem k16 : (Rows.scriptSaysRow.loops == (Tryz.f4.params.toList ++ Rows.scriptSaysSpec.plain.varTypes Tryz.pinned.checked.prog).any (Tryz.pinned.checked.prog.loopsFrom ·)) = true := by kernel_rfl
theorem k17 : (Rows.scriptSaysRow.wideKeys == (Tryz.f4.params.toList ++ Rows.scriptSaysSpec.plain.varTypes Tryz.pinned.checked.prog ++ Tryz.f4.resultTypes.toList).any (Tryz.pinned.checked.prog.wideKeysFrom ·)) = true := by kernel_rfl
theorem k18 : (Rows.scriptSaysSpec.vars.all (Tryz.pinned.checked.prog.varReadable ·)) = true := by kernel_rfl
theorem k19 : (Tryz.f4.resultTypes.all (fun t => Tryz.pinned.checked.prog.readableRec t && decide (t < Tryz.pinned.checked.prog.types.size))) = true := by kernel_rfl
theorem k20 : (Rows.scriptSaysRow.ifacesOut == Tryz.f4.resultTypes.toList.any (Tryz.pinned.checked.prog.ifacesRec ·)) = true := by kernel_rfl
theorem k21 : (Rows.scriptSaysRow.loopsOut == Tryz.f4.resultTypes.toList.any (Tryz.pinned.checked.prog.loopsFrom ·)) = true := by kernel_rfl
theorem k22 : (Rows.scriptSaysRow.plainKeys == Tryz.pinned.checked.prog.plainKeys) = true := by kernel_rfl
theorem k23 : (Rows.scriptSaysRow.shortTexts.isNone) = true := by kernel_rfl
theorem k24 : (Tryz.pinned.checked.prog.stopsHeard) = true := by kernel_rfl
theorem k25 : (Tryz.pinned.checked.prog.mayEnter) = true := by kernel_rfl
theorem k26 : (Rows.scriptSaysRow.lifted == Tryz.pinned.checked.prog.liftsFinal) = true := by kernel_rfl
theorem k27 : (Tryz.pinned.checked.prog.make == some Rows.scriptSaysRow.make) = true := by kernel_rfl
theorem k28 : (Rows.scriptSaysRow.kinds == (if Rows.scriptSaysRow.domain.isEmpty then [] else Tryz.f4.params.toList.map fun t => match Tryz.pinned.checked.prog.underlying t with | some (.int k) => some k | _ => none)) = true := by kernel_rfl
theorem k29 : (Rows.scriptSaysRow.pinned == Rows.scriptSaysRow.pinnedBy) = true := by kernel_rfl
theorem k30 : (Rows.scriptSaysRow.veiled == (Tryz.f4.params.toList ++ Rows.scriptSaysSpec.plain.varTypes Tryz.pinned.checked.prog ++ Tryz.f4.resultTypes.toList).any (Tryz.pinned.checked.prog.veiledRec ·)) = true := by kernel_rfl
theorem k31 : (Rows.scriptSaysRow.veiledFits Tryz.pinned.checked.prog Tryz.f4.params.toList (Tryz.f4.params.toList ++ Rows.scriptSaysSpec.plain.varTypes Tryz.pinned.checked.prog ++ Tryz.f4.resultTypes.toList)) = true := by kernel_rfl
set_option maxRecDepth 100000 in
theorem all : joinedFacts Tryz.pinned.checked.prog 4 Tryz.f4 Rows.scriptSaysSpec Rows.scriptSaysRow = true := by
  unfold joinedFacts
  simp only [Bool.and_eq_true]
  exact ⟨⟨⟨⟨⟨⟨⟨⟨⟨⟨⟨⟨⟨⟨⟨⟨⟨⟨⟨⟨⟨⟨⟨⟨⟨⟨⟨⟨⟨⟨⟨k0, k1⟩, k2⟩, k3⟩, k4⟩, k5⟩, k6⟩, k7⟩, k8⟩, k9⟩, k10⟩, k11⟩, k12⟩, k13⟩, k14⟩, k15⟩, k16⟩, k17⟩, k18⟩, k19⟩, k20⟩, k21⟩, k22⟩, k23⟩, k24⟩, k25⟩, k26⟩, k27⟩, k28⟩, k29⟩, k30⟩, k31⟩
end Go.Proofs.YtcaiakbaklopmaaGreatDoor.scriptSaysF
