/-
  DERIVED. GIVEN WITH THE SEED: THE CARDS: each row of YtidjelhbliekbaaDoorRows.lean that lists a variable, with what it lists TIED to the program's text (the seventh form; the later family's looks); each row that meets fmt, with fmt's text TOLD by the authors' own Lean function (tested against real Go, not proved from fmt's source: count such statements apart). THE CARD IS WHAT COUNTS. Prove the row's statement (the work); the ties are given (YtidjelhbliekbaaDoorTie.lean); close each card by the builder's one call (the guide's Derived/Test/ToyasCard.lean, 'card_holds'). Laid BY PROGRAM, IN A SANDBOX (cutbox-door.mjs). By AI agents, Wed Nov 11 2026. No macro, syntax, notation, axiom, sorry.
-/
import Derived.Test.YtidjelhbliekbaaDoorRows
import GoSem.ClaimSeven
namespace Go.Proofs.YtidjelhbliekbaaDoor
namespace Rows

/-- THE TIED CARD OF 'wageofficelaw26.CommitmentMatchesReference'. -/
def commitmentMatchesReferenceCard : Claim7 := { stood := { row := commitmentMatchesReferenceRow, standIns := [], harness := (true, "b0d88b56e39499152ce1fc82e3e0e3354e20d299452d3e12a9b88f585802191c"), looks := false }, kinds := [], alts := [], laidByText := true, laidKinds := [.data], laidTests := true, laidLooks := .later }
def CommitmentMatchesReferenceCardSaid : Prop := Claim7.holds Tryd.pinned (.plain (OpenSpec.ofChange commitmentMatchesReferenceSpec)) commitmentMatchesReferenceCard

/-- THE TIED CARD OF 'wageofficelaw26.CommitmentPowers'. -/
def commitmentPowersCard : Claim7 := { stood := { row := commitmentPowersRow, standIns := [], harness := (true, "b0d88b56e39499152ce1fc82e3e0e3354e20d299452d3e12a9b88f585802191c"), looks := false }, kinds := [], alts := [], laidByText := true, laidKinds := [.data], laidTests := true, laidLooks := .later }
def CommitmentPowersCardSaid : Prop := Claim7.holds Tryd.pinned (.plain (OpenSpec.ofChange commitmentPowersSpec)) commitmentPowersCard

/-- THE TIED CARD OF 'wageofficelaw26.CommitmentSums'. -/
def commitmentSumsCard : Claim7 := { stood := { row := commitmentSumsRow, standIns := [], harness := (true, "b0d88b56e39499152ce1fc82e3e0e3354e20d299452d3e12a9b88f585802191c"), looks := false }, kinds := [], alts := [], laidByText := true, laidKinds := [.data], laidTests := true, laidLooks := .later }
def CommitmentSumsCardSaid : Prop := Claim7.holds Tryd.pinned (.plain (OpenSpec.ofChange commitmentSumsSpec)) commitmentSumsCard

/-- THE TIED CARD OF 'wageofficelaw26.CommitmentGroup'. -/
def commitmentGroupCard : Claim7 := { stood := { row := commitmentGroupRow, standIns := [], harness := (true, "b0d88b56e39499152ce1fc82e3e0e3354e20d299452d3e12a9b88f585802191c"), looks := false }, kinds := [], alts := [], laidByText := true, laidKinds := [.data], laidTests := true, laidLooks := .later }
def CommitmentGroupCardSaid : Prop := Claim7.holds Tryd.pinned (.plain (OpenSpec.ofChange commitmentGroupSpec)) commitmentGroupCard

/-- THE TIED CARD OF 'wageofficelaw26.CommitmentBinds'. -/
def commitmentBindsCard : Claim7 := { stood := { row := commitmentBindsRow, standIns := [], harness := (true, "b0d88b56e39499152ce1fc82e3e0e3354e20d299452d3e12a9b88f585802191c"), looks := false }, kinds := [], alts := [], laidByText := true, laidKinds := [.data], laidTests := true, laidLooks := .later }
def CommitmentBindsCardSaid : Prop := Claim7.holds Tryd.pinned (.plain (OpenSpec.ofChange commitmentBindsSpec)) commitmentBindsCard

/-- THE TIED CARD OF 'wageofficelaw26.CommitmentOutside'. -/
def commitmentOutsideCard : Claim7 := { stood := { row := commitmentOutsideRow, standIns := [], harness := (true, "b0d88b56e39499152ce1fc82e3e0e3354e20d299452d3e12a9b88f585802191c"), looks := false }, kinds := [], alts := [], laidByText := true, laidKinds := [.data], laidTests := true, laidLooks := .later }
def CommitmentOutsideCardSaid : Prop := Claim7.holds Tryd.pinned (.plain (OpenSpec.ofChange commitmentOutsideSpec)) commitmentOutsideCard

/-- THE SECOND FORM's CARD OF 'wageofficelaw26.CommitmentMatchesReference'. -/
def commitmentMatchesReferenceUptoCard : Claim7 := { stood := { row := commitmentMatchesReferenceUptoRow, standIns := [], harness := (true, "b0d88b56e39499152ce1fc82e3e0e3354e20d299452d3e12a9b88f585802191c"), looks := false }, kinds := [], alts := [], laidByText := true, laidKinds := [.data], laidTests := true, laidLooks := .later }
def CommitmentMatchesReferenceUptoCardSaid : Prop := Claim7.holds Tryd.pinned (.plain (OpenSpec.upto commitmentMatchesReferenceSpec)) commitmentMatchesReferenceUptoCard

/-- THE SECOND FORM's CARD OF 'wageofficelaw26.CommitmentPowers'. -/
def commitmentPowersUptoCard : Claim7 := { stood := { row := commitmentPowersUptoRow, standIns := [], harness := (true, "b0d88b56e39499152ce1fc82e3e0e3354e20d299452d3e12a9b88f585802191c"), looks := false }, kinds := [], alts := [], laidByText := true, laidKinds := [.data], laidTests := true, laidLooks := .later }
def CommitmentPowersUptoCardSaid : Prop := Claim7.holds Tryd.pinned (.plain (OpenSpec.upto commitmentPowersSpec)) commitmentPowersUptoCard

/-- THE SECOND FORM's CARD OF 'wageofficelaw26.CommitmentSums'. -/
def commitmentSumsUptoCard : Claim7 := { stood := { row := commitmentSumsUptoRow, standIns := [], harness := (true, "b0d88b56e39499152ce1fc82e3e0e3354e20d299452d3e12a9b88f585802191c"), looks := false }, kinds := [], alts := [], laidByText := true, laidKinds := [.data], laidTests := true, laidLooks := .later }
def CommitmentSumsUptoCardSaid : Prop := Claim7.holds Tryd.pinned (.plain (OpenSpec.upto commitmentSumsSpec)) commitmentSumsUptoCard

/-- THE SECOND FORM's CARD OF 'wageofficelaw26.CommitmentGroup'. -/
def commitmentGroupUptoCard : Claim7 := { stood := { row := commitmentGroupUptoRow, standIns := [], harness := (true, "b0d88b56e39499152ce1fc82e3e0e3354e20d299452d3e12a9b88f585802191c"), looks := false }, kinds := [], alts := [], laidByText := true, laidKinds := [.data], laidTests := true, laidLooks := .later }
def CommitmentGroupUptoCardSaid : Prop := Claim7.holds Tryd.pinned (.plain (OpenSpec.upto commitmentGroupSpec)) commitmentGroupUptoCard

/-- THE SECOND FORM's CARD OF 'wageofficelaw26.CommitmentBinds'. -/
def commitmentBindsUptoCard : Claim7 := { stood := { row := commitmentBindsUptoRow, standIns := [], harness := (true, "b0d88b56e39499152ce1fc82e3e0e3354e20d299452d3e12a9b88f585802191c"), looks := false }, kinds := [], alts := [], laidByText := true, laidKinds := [.data], laidTests := true, laidLooks := .later }
def CommitmentBindsUptoCardSaid : Prop := Claim7.holds Tryd.pinned (.plain (OpenSpec.upto commitmentBindsSpec)) commitmentBindsUptoCard

/-- THE SECOND FORM's CARD OF 'wageofficelaw26.CommitmentOutside'. -/
def commitmentOutsideUptoCard : Claim7 := { stood := { row := commitmentOutsideUptoRow, standIns := [], harness := (true, "b0d88b56e39499152ce1fc82e3e0e3354e20d299452d3e12a9b88f585802191c"), looks := false }, kinds := [], alts := [], laidByText := true, laidKinds := [.data], laidTests := true, laidLooks := .later }
def CommitmentOutsideUptoCardSaid : Prop := Claim7.holds Tryd.pinned (.plain (OpenSpec.upto commitmentOutsideSpec)) commitmentOutsideUptoCard
end Rows
end Go.Proofs.YtidjelhbliekbaaDoor
