/-
  DERIVED. GIVEN WITH THE SEED: THE CARDS: each row of YtcaiakbaklopmaaGreatDoorRows.lean that lists a variable, with what it lists TIED to the program's text (the seventh form; the later family's looks); each row that meets fmt, with fmt's text TOLD by the authors' own Lean function (tested against real Go, not proved from fmt's source: count such statements apart). THE CARD IS WHAT COUNTS. Prove the row's statement (the work); the ties are given (YtcaiakbaklopmaaGreatDoorTie.lean); close each card by the builder's one call (the guide's Derived/Test/ToyasCard.lean, 'card_holds'). Laid BY PROGRAM, IN A SANDBOX (cutbox-door.mjs). By AI agents, Wed Nov 11 2026. No macro, syntax, notation, axiom, sorry.
-/
import Derived.Test.YtcaiakbaklopmaaGreatDoorRows
import GoSem.ClaimSeven
namespace Go.Proofs.YtcaiakbaklopmaaGreatDoor
namespace Rows

/-- THE TIED CARD OF 'credenzalaw28.ScriptFrames'. -/
def scriptFramesCard : Claim7 := { stood := { row := scriptFramesRow, standIns := [], harness := (true, "ff8bf25f4e3e64c6262ef0d74aa129505a468b24fc801cd3b92e7190934e8971"), looks := true }, kinds := [], alts := [], laidByText := true, laidKinds := [.data, .data, .data, .data, .sentinel, .sentinel, .pinned], laidTests := true, laidLooks := .later }
def ScriptFramesCardSaid : Prop := Claim7.holds Tryz.pinned (.plain (OpenSpec.ofChange scriptFramesSpec)) scriptFramesCard

/-- THE TIED CARD OF 'credenzalaw28.ScriptSays'. -/
def scriptSaysCard : Claim7 := { stood := { row := scriptSaysRow, standIns := [], harness := (true, "ff8bf25f4e3e64c6262ef0d74aa129505a468b24fc801cd3b92e7190934e8971"), looks := true }, kinds := [], alts := [], laidByText := true, laidKinds := [.data, .data, .data, .data, .sentinel, .sentinel, .pinned], laidTests := true, laidLooks := .later }
def ScriptSaysCardSaid : Prop := Claim7.holds Tryz.pinned (.plain (OpenSpec.ofChange scriptSaysSpec)) scriptSaysCard

/-- THE TIED CARD OF 'credenzalaw28.ScriptLines'. -/
def scriptLinesCard : Claim7 := { stood := { row := scriptLinesRow, standIns := [], harness := (true, "ff8bf25f4e3e64c6262ef0d74aa129505a468b24fc801cd3b92e7190934e8971"), looks := true }, kinds := [], alts := [], laidByText := true, laidKinds := [.data, .data, .data, .data, .sentinel, .sentinel, .pinned], laidTests := true, laidLooks := .later }
def ScriptLinesCardSaid : Prop := Claim7.holds Tryz.pinned (.plain (OpenSpec.ofChange scriptLinesSpec)) scriptLinesCard

/-- THE SECOND FORM's CARD OF 'credenzalaw28.ScriptFrames'. -/
def scriptFramesUptoCard : Claim7 := { stood := { row := scriptFramesUptoRow, standIns := [], harness := (true, "ff8bf25f4e3e64c6262ef0d74aa129505a468b24fc801cd3b92e7190934e8971"), looks := true }, kinds := [], alts := [], laidByText := true, laidKinds := [.data, .data, .data, .data, .sentinel, .sentinel, .pinned], laidTests := true, laidLooks := .later }
def ScriptFramesUptoCardSaid : Prop := Claim7.holds Tryz.pinned (.plain (OpenSpec.upto scriptFramesSpec)) scriptFramesUptoCard

/-- THE SECOND FORM's CARD OF 'credenzalaw28.ScriptSays'. -/
def scriptSaysUptoCard : Claim7 := { stood := { row := scriptSaysUptoRow, standIns := [], harness := (true, "ff8bf25f4e3e64c6262ef0d74aa129505a468b24fc801cd3b92e7190934e8971"), looks := true }, kinds := [], alts := [], laidByText := true, laidKinds := [.data, .data, .data, .data, .sentinel, .sentinel, .pinned], laidTests := true, laidLooks := .later }
def ScriptSaysUptoCardSaid : Prop := Claim7.holds Tryz.pinned (.plain (OpenSpec.upto scriptSaysSpec)) scriptSaysUptoCard

/-- THE SECOND FORM's CARD OF 'credenzalaw28.ScriptLines'. -/
def scriptLinesUptoCard : Claim7 := { stood := { row := scriptLinesUptoRow, standIns := [], harness := (true, "ff8bf25f4e3e64c6262ef0d74aa129505a468b24fc801cd3b92e7190934e8971"), looks := true }, kinds := [], alts := [], laidByText := true, laidKinds := [.data, .data, .data, .data, .sentinel, .sentinel, .pinned], laidTests := true, laidLooks := .later }
def ScriptLinesUptoCardSaid : Prop := Claim7.holds Tryz.pinned (.plain (OpenSpec.upto scriptLinesSpec)) scriptLinesUptoCard
end Rows
end Go.Proofs.YtcaiakbaklopmaaGreatDoor
