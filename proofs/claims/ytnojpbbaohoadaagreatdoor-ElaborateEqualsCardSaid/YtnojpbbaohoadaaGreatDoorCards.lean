/-
  DERIVED. GIVEN WITH THE SEED: THE CARDS: each row of YtnojpbbaohoadaaGreatDoorRows.lean that lists a variable, with what it lists TIED to the program's text (the seventh form; the later family's looks); each row that meets fmt, with fmt's text TOLD by the authors' own Lean function (tested against real Go, not proved from fmt's source: count such statements apart). THE CARD IS WHAT COUNTS. Prove the row's statement (the work); the ties are given (YtnojpbbaohoadaaGreatDoorTie.lean); close each card by the builder's one call (the guide's Derived/Test/ToyasCard.lean, 'card_holds'). Laid BY PROGRAM, IN A SANDBOX (cutbox-door.mjs). By AI agents, Wed Nov 11 2026. No macro, syntax, notation, axiom, sorry.
-/
import Derived.Test.YtnojpbbaohoadaaGreatDoorRows
import GoSem.ClaimSeven
namespace Go.Proofs.YtnojpbbaohoadaaGreatDoor
namespace Rows

/-- THE TIED CARD OF 'overseerlaw22.ElaborateChecks'. -/
def elaborateChecksCard : Claim7 := { stood := { row := elaborateChecksRow, standIns := [], harness := (true, "9aa124d96d2f2fea36404c3e6649a1942013d744947b2e2ae648d5b84282eb38"), looks := false }, kinds := [], alts := [], laidByText := true, laidKinds := [.data, .data, .data], laidTests := true, laidLooks := .later }
def ElaborateChecksCardSaid : Prop := Claim7.holds Tryz.pinned (.plain (OpenSpec.ofChange elaborateChecksSpec)) elaborateChecksCard

/-- THE TIED CARD OF 'overseerlaw22.ElaborateWords'. -/
def elaborateWordsCard : Claim7 := { stood := { row := elaborateWordsRow, standIns := [], harness := (true, "9aa124d96d2f2fea36404c3e6649a1942013d744947b2e2ae648d5b84282eb38"), looks := false }, kinds := [], alts := [], laidByText := true, laidKinds := [.data, .data, .data], laidTests := true, laidLooks := .later }
def ElaborateWordsCardSaid : Prop := Claim7.holds Tryz.pinned (.plain (OpenSpec.ofChange elaborateWordsSpec)) elaborateWordsCard

/-- THE TIED CARD OF 'overseerlaw22.ElaborateLimits'. -/
def elaborateLimitsCard : Claim7 := { stood := { row := elaborateLimitsRow, standIns := [], harness := (true, "9aa124d96d2f2fea36404c3e6649a1942013d744947b2e2ae648d5b84282eb38"), looks := false }, kinds := [], alts := [], laidByText := true, laidKinds := [.data, .data, .data], laidTests := true, laidLooks := .later }
def ElaborateLimitsCardSaid : Prop := Claim7.holds Tryz.pinned (.plain (OpenSpec.ofChange elaborateLimitsSpec)) elaborateLimitsCard

/-- THE TIED CARD OF 'overseerlaw22.ElaborateCells'. -/
def elaborateCellsCard : Claim7 := { stood := { row := elaborateCellsRow, standIns := [], harness := (true, "9aa124d96d2f2fea36404c3e6649a1942013d744947b2e2ae648d5b84282eb38"), looks := false }, kinds := [], alts := [], laidByText := true, laidKinds := [.data, .data, .data], laidTests := true, laidLooks := .later }
def ElaborateCellsCardSaid : Prop := Claim7.holds Tryz.pinned (.plain (OpenSpec.ofChange elaborateCellsSpec)) elaborateCellsCard

/-- THE TIED CARD OF 'overseerlaw22.ElaborateRenames'. -/
def elaborateRenamesCard : Claim7 := { stood := { row := elaborateRenamesRow, standIns := [], harness := (true, "9aa124d96d2f2fea36404c3e6649a1942013d744947b2e2ae648d5b84282eb38"), looks := false }, kinds := [], alts := [], laidByText := true, laidKinds := [.data, .data, .data], laidTests := true, laidLooks := .later }
def ElaborateRenamesCardSaid : Prop := Claim7.holds Tryz.pinned (.plain (OpenSpec.ofChange elaborateRenamesSpec)) elaborateRenamesCard

/-- THE TIED CARD OF 'overseerlaw22.ElaborateMachines'. -/
def elaborateMachinesCard : Claim7 := { stood := { row := elaborateMachinesRow, standIns := [], harness := (true, "9aa124d96d2f2fea36404c3e6649a1942013d744947b2e2ae648d5b84282eb38"), looks := false }, kinds := [], alts := [], laidByText := true, laidKinds := [.data, .data, .data], laidTests := true, laidLooks := .later }
def ElaborateMachinesCardSaid : Prop := Claim7.holds Tryz.pinned (.plain (OpenSpec.ofChange elaborateMachinesSpec)) elaborateMachinesCard

/-- THE TIED CARD OF 'overseerlaw22.ElaborateEquals'. -/
def elaborateEqualsCard : Claim7 := { stood := { row := elaborateEqualsRow, standIns := [], harness := (true, "9aa124d96d2f2fea36404c3e6649a1942013d744947b2e2ae648d5b84282eb38"), looks := false }, kinds := [], alts := [], laidByText := true, laidKinds := [.data, .data, .data], laidTests := true, laidLooks := .later }
def ElaborateEqualsCardSaid : Prop := Claim7.holds Tryz.pinned (.plain (OpenSpec.ofChange elaborateEqualsSpec)) elaborateEqualsCard

/-- THE TIED CARD OF 'overseerlaw22.ElaborateFinds'. -/
def elaborateFindsCard : Claim7 := { stood := { row := elaborateFindsRow, standIns := [], harness := (true, "9aa124d96d2f2fea36404c3e6649a1942013d744947b2e2ae648d5b84282eb38"), looks := false }, kinds := [], alts := [], laidByText := true, laidKinds := [.data, .data, .data], laidTests := true, laidLooks := .later }
def ElaborateFindsCardSaid : Prop := Claim7.holds Tryz.pinned (.plain (OpenSpec.ofChange elaborateFindsSpec)) elaborateFindsCard

/-- THE SECOND FORM's CARD OF 'overseerlaw22.ElaborateChecks'. -/
def elaborateChecksUptoCard : Claim7 := { stood := { row := elaborateChecksUptoRow, standIns := [], harness := (true, "9aa124d96d2f2fea36404c3e6649a1942013d744947b2e2ae648d5b84282eb38"), looks := false }, kinds := [], alts := [], laidByText := true, laidKinds := [.data, .data, .data], laidTests := true, laidLooks := .later }
def ElaborateChecksUptoCardSaid : Prop := Claim7.holds Tryz.pinned (.plain (OpenSpec.upto elaborateChecksSpec)) elaborateChecksUptoCard

/-- THE SECOND FORM's CARD OF 'overseerlaw22.ElaborateWords'. -/
def elaborateWordsUptoCard : Claim7 := { stood := { row := elaborateWordsUptoRow, standIns := [], harness := (true, "9aa124d96d2f2fea36404c3e6649a1942013d744947b2e2ae648d5b84282eb38"), looks := false }, kinds := [], alts := [], laidByText := true, laidKinds := [.data, .data, .data], laidTests := true, laidLooks := .later }
def ElaborateWordsUptoCardSaid : Prop := Claim7.holds Tryz.pinned (.plain (OpenSpec.upto elaborateWordsSpec)) elaborateWordsUptoCard

/-- THE SECOND FORM's CARD OF 'overseerlaw22.ElaborateLimits'. -/
def elaborateLimitsUptoCard : Claim7 := { stood := { row := elaborateLimitsUptoRow, standIns := [], harness := (true, "9aa124d96d2f2fea36404c3e6649a1942013d744947b2e2ae648d5b84282eb38"), looks := false }, kinds := [], alts := [], laidByText := true, laidKinds := [.data, .data, .data], laidTests := true, laidLooks := .later }
def ElaborateLimitsUptoCardSaid : Prop := Claim7.holds Tryz.pinned (.plain (OpenSpec.upto elaborateLimitsSpec)) elaborateLimitsUptoCard

/-- THE SECOND FORM's CARD OF 'overseerlaw22.ElaborateCells'. -/
def elaborateCellsUptoCard : Claim7 := { stood := { row := elaborateCellsUptoRow, standIns := [], harness := (true, "9aa124d96d2f2fea36404c3e6649a1942013d744947b2e2ae648d5b84282eb38"), looks := false }, kinds := [], alts := [], laidByText := true, laidKinds := [.data, .data, .data], laidTests := true, laidLooks := .later }
def ElaborateCellsUptoCardSaid : Prop := Claim7.holds Tryz.pinned (.plain (OpenSpec.upto elaborateCellsSpec)) elaborateCellsUptoCard

/-- THE SECOND FORM's CARD OF 'overseerlaw22.ElaborateRenames'. -/
def elaborateRenamesUptoCard : Claim7 := { stood := { row := elaborateRenamesUptoRow, standIns := [], harness := (true, "9aa124d96d2f2fea36404c3e6649a1942013d744947b2e2ae648d5b84282eb38"), looks := false }, kinds := [], alts := [], laidByText := true, laidKinds := [.data, .data, .data], laidTests := true, laidLooks := .later }
def ElaborateRenamesUptoCardSaid : Prop := Claim7.holds Tryz.pinned (.plain (OpenSpec.upto elaborateRenamesSpec)) elaborateRenamesUptoCard

/-- THE SECOND FORM's CARD OF 'overseerlaw22.ElaborateMachines'. -/
def elaborateMachinesUptoCard : Claim7 := { stood := { row := elaborateMachinesUptoRow, standIns := [], harness := (true, "9aa124d96d2f2fea36404c3e6649a1942013d744947b2e2ae648d5b84282eb38"), looks := false }, kinds := [], alts := [], laidByText := true, laidKinds := [.data, .data, .data], laidTests := true, laidLooks := .later }
def ElaborateMachinesUptoCardSaid : Prop := Claim7.holds Tryz.pinned (.plain (OpenSpec.upto elaborateMachinesSpec)) elaborateMachinesUptoCard

/-- THE SECOND FORM's CARD OF 'overseerlaw22.ElaborateEquals'. -/
def elaborateEqualsUptoCard : Claim7 := { stood := { row := elaborateEqualsUptoRow, standIns := [], harness := (true, "9aa124d96d2f2fea36404c3e6649a1942013d744947b2e2ae648d5b84282eb38"), looks := false }, kinds := [], alts := [], laidByText := true, laidKinds := [.data, .data, .data], laidTests := true, laidLooks := .later }
def ElaborateEqualsUptoCardSaid : Prop := Claim7.holds Tryz.pinned (.plain (OpenSpec.upto elaborateEqualsSpec)) elaborateEqualsUptoCard

/-- THE SECOND FORM's CARD OF 'overseerlaw22.ElaborateFinds'. -/
def elaborateFindsUptoCard : Claim7 := { stood := { row := elaborateFindsUptoRow, standIns := [], harness := (true, "9aa124d96d2f2fea36404c3e6649a1942013d744947b2e2ae648d5b84282eb38"), looks := false }, kinds := [], alts := [], laidByText := true, laidKinds := [.data, .data, .data], laidTests := true, laidLooks := .later }
def ElaborateFindsUptoCardSaid : Prop := Claim7.holds Tryz.pinned (.plain (OpenSpec.upto elaborateFindsSpec)) elaborateFindsUptoCard
end Rows
end Go.Proofs.YtnojpbbaohoadaaGreatDoor
