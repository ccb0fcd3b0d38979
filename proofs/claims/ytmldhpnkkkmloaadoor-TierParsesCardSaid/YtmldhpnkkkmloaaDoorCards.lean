/-
  DERIVED. GIVEN WITH THE SEED: THE CARDS: each row of YtmldhpnkkkmloaaDoorRows.lean that lists a variable, with what it lists TIED to the program's text (the seventh form; the later family's looks); each row that meets fmt, with fmt's text TOLD by the authors' own Lean function (tested against real Go, not proved from fmt's source: count such statements apart). THE CARD IS WHAT COUNTS. Prove the row's statement (the work); the ties are given (YtmldhpnkkkmloaaDoorTie.lean); close each card by the builder's one call (the guide's Derived/Test/ToyasCard.lean, 'card_holds'). Laid BY PROGRAM, IN A SANDBOX (cutbox-door.mjs). By AI agents, Wed Nov 11 2026. No macro, syntax, notation, axiom, sorry.
-/
import Derived.Test.YtmldhpnkkkmloaaDoorRows
import GoSem.ClaimSeven
namespace Go.Proofs.YtmldhpnkkkmloaaDoor
namespace Rows

/-- THE TIED CARD OF 'credenzalaw09.TierTexts'. -/
def tierTextsCard : Claim7 := { stood := { row := tierTextsRow, standIns := [], harness := (true, "b919752249d168aae7c4bdc5ba172f57bbd34e8d34366b9d2ede4122e7b0a920"), looks := true }, kinds := [], alts := [], laidByText := true, laidKinds := [.data, .data, .data, .data, .sentinel, .sentinel, .pinned], laidTests := true, laidLooks := .later }
def TierTextsCardSaid : Prop := Claim7.holds Tryd.pinned (.plain (OpenSpec.ofChange tierTextsSpec)) tierTextsCard

/-- THE TIED CARD OF 'credenzalaw09.TierParses'. -/
def tierParsesCard : Claim7 := { stood := { row := tierParsesRow, standIns := [], harness := (true, "b919752249d168aae7c4bdc5ba172f57bbd34e8d34366b9d2ede4122e7b0a920"), looks := true }, kinds := [], alts := [], laidByText := true, laidKinds := [.data, .data, .data, .data, .sentinel, .sentinel, .pinned], laidTests := true, laidLooks := .later }
def TierParsesCardSaid : Prop := Claim7.holds Tryd.pinned (.plain (OpenSpec.ofChange tierParsesSpec)) tierParsesCard

/-- THE TIED CARD OF 'credenzalaw09.TierGroups'. -/
def tierGroupsCard : Claim7 := { stood := { row := tierGroupsRow, standIns := [], harness := (true, "b919752249d168aae7c4bdc5ba172f57bbd34e8d34366b9d2ede4122e7b0a920"), looks := true }, kinds := [], alts := [], laidByText := true, laidKinds := [.data, .data, .data, .data, .sentinel, .sentinel, .pinned], laidTests := true, laidLooks := .later }
def TierGroupsCardSaid : Prop := Claim7.holds Tryd.pinned (.plain (OpenSpec.ofChange tierGroupsSpec)) tierGroupsCard

/-- THE TIED CARD OF 'credenzalaw09.TierRises'. -/
def tierRisesCard : Claim7 := { stood := { row := tierRisesRow, standIns := [], harness := (true, "b919752249d168aae7c4bdc5ba172f57bbd34e8d34366b9d2ede4122e7b0a920"), looks := true }, kinds := [], alts := [], laidByText := true, laidKinds := [.data, .data, .data, .data, .sentinel, .sentinel, .pinned], laidTests := true, laidLooks := .later }
def TierRisesCardSaid : Prop := Claim7.holds Tryd.pinned (.plain (OpenSpec.ofChange tierRisesSpec)) tierRisesCard

/-- THE TIED CARD OF 'credenzalaw09.TierEquals'. -/
def tierEqualsCard : Claim7 := { stood := { row := tierEqualsRow, standIns := [], harness := (true, "b919752249d168aae7c4bdc5ba172f57bbd34e8d34366b9d2ede4122e7b0a920"), looks := true }, kinds := [], alts := [], laidByText := true, laidKinds := [.data, .data, .data, .data, .sentinel, .sentinel, .pinned], laidTests := true, laidLooks := .later }
def TierEqualsCardSaid : Prop := Claim7.holds Tryd.pinned (.plain (OpenSpec.ofChange tierEqualsSpec)) tierEqualsCard

/-- THE SECOND FORM's CARD OF 'credenzalaw09.TierTexts'. -/
def tierTextsUptoCard : Claim7 := { stood := { row := tierTextsUptoRow, standIns := [], harness := (true, "b919752249d168aae7c4bdc5ba172f57bbd34e8d34366b9d2ede4122e7b0a920"), looks := true }, kinds := [], alts := [], laidByText := true, laidKinds := [.data, .data, .data, .data, .sentinel, .sentinel, .pinned], laidTests := true, laidLooks := .later }
def TierTextsUptoCardSaid : Prop := Claim7.holds Tryd.pinned (.plain (OpenSpec.upto tierTextsSpec)) tierTextsUptoCard

/-- THE SECOND FORM's CARD OF 'credenzalaw09.TierParses'. -/
def tierParsesUptoCard : Claim7 := { stood := { row := tierParsesUptoRow, standIns := [], harness := (true, "b919752249d168aae7c4bdc5ba172f57bbd34e8d34366b9d2ede4122e7b0a920"), looks := true }, kinds := [], alts := [], laidByText := true, laidKinds := [.data, .data, .data, .data, .sentinel, .sentinel, .pinned], laidTests := true, laidLooks := .later }
def TierParsesUptoCardSaid : Prop := Claim7.holds Tryd.pinned (.plain (OpenSpec.upto tierParsesSpec)) tierParsesUptoCard

/-- THE SECOND FORM's CARD OF 'credenzalaw09.TierGroups'. -/
def tierGroupsUptoCard : Claim7 := { stood := { row := tierGroupsUptoRow, standIns := [], harness := (true, "b919752249d168aae7c4bdc5ba172f57bbd34e8d34366b9d2ede4122e7b0a920"), looks := true }, kinds := [], alts := [], laidByText := true, laidKinds := [.data, .data, .data, .data, .sentinel, .sentinel, .pinned], laidTests := true, laidLooks := .later }
def TierGroupsUptoCardSaid : Prop := Claim7.holds Tryd.pinned (.plain (OpenSpec.upto tierGroupsSpec)) tierGroupsUptoCard

/-- THE SECOND FORM's CARD OF 'credenzalaw09.TierRises'. -/
def tierRisesUptoCard : Claim7 := { stood := { row := tierRisesUptoRow, standIns := [], harness := (true, "b919752249d168aae7c4bdc5ba172f57bbd34e8d34366b9d2ede4122e7b0a920"), looks := true }, kinds := [], alts := [], laidByText := true, laidKinds := [.data, .data, .data, .data, .sentinel, .sentinel, .pinned], laidTests := true, laidLooks := .later }
def TierRisesUptoCardSaid : Prop := Claim7.holds Tryd.pinned (.plain (OpenSpec.upto tierRisesSpec)) tierRisesUptoCard

/-- THE SECOND FORM's CARD OF 'credenzalaw09.TierEquals'. -/
def tierEqualsUptoCard : Claim7 := { stood := { row := tierEqualsUptoRow, standIns := [], harness := (true, "b919752249d168aae7c4bdc5ba172f57bbd34e8d34366b9d2ede4122e7b0a920"), looks := true }, kinds := [], alts := [], laidByText := true, laidKinds := [.data, .data, .data, .data, .sentinel, .sentinel, .pinned], laidTests := true, laidLooks := .later }
def TierEqualsUptoCardSaid : Prop := Claim7.holds Tryd.pinned (.plain (OpenSpec.upto tierEqualsSpec)) tierEqualsUptoCard
end Rows
end Go.Proofs.YtmldhpnkkkmloaaDoor
