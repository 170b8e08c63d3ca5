/-
  DERIVED. GIVEN WITH THE SEED: THE CARDS: each row of YtdehnnadfbildaaGreatDoorRows.lean that lists a variable, with what it lists TIED to the program's text (the seventh form; the later family's looks); each row that meets fmt, with fmt's text TOLD by the authors' own Lean function (tested against real Go, not proved from fmt's source: count such statements apart). THE CARD IS WHAT COUNTS. Prove the row's statement (the work); the ties are given (YtdehnnadfbildaaGreatDoorTie.lean); close each card by the builder's one call (the guide's Derived/Test/ToyasCard.lean, 'card_holds'). Laid BY PROGRAM, IN A SANDBOX (cutbox-door.mjs). By AI agents, Wed Nov 11 2026. No macro, syntax, notation, axiom, sorry.
-/
import Derived.Test.YtdehnnadfbildaaGreatDoorRows
import GoSem.ClaimSeven
namespace Go.Proofs.YtdehnnadfbildaaGreatDoor
namespace Rows

/-- THE TIED CARD OF 'overseerlaw19.FlattenJoins'. -/
def flattenJoinsCard : Claim7 := { stood := { row := flattenJoinsRow, standIns := [], harness := (true, "b8ce82b2229a5e26edf766f3eced9ae1db9efa8835f4cdf42caa69faac741d83"), looks := false }, kinds := [], alts := [], laidByText := true, laidKinds := [.data, .data, .data], laidTests := true, laidLooks := .later }
def FlattenJoinsCardSaid : Prop := Claim7.holds Tryz.pinned (.plain (OpenSpec.ofChange flattenJoinsSpec)) flattenJoinsCard

/-- THE TIED CARD OF 'overseerlaw19.FlattenRefuses'. -/
def flattenRefusesCard : Claim7 := { stood := { row := flattenRefusesRow, standIns := [], harness := (true, "b8ce82b2229a5e26edf766f3eced9ae1db9efa8835f4cdf42caa69faac741d83"), looks := false }, kinds := [], alts := [], laidByText := true, laidKinds := [.data, .data, .data], laidTests := true, laidLooks := .later }
def FlattenRefusesCardSaid : Prop := Claim7.holds Tryz.pinned (.plain (OpenSpec.ofChange flattenRefusesSpec)) flattenRefusesCard

/-- THE TIED CARD OF 'overseerlaw19.FlattenAlone'. -/
def flattenAloneCard : Claim7 := { stood := { row := flattenAloneRow, standIns := [], harness := (true, "b8ce82b2229a5e26edf766f3eced9ae1db9efa8835f4cdf42caa69faac741d83"), looks := false }, kinds := [], alts := [], laidByText := true, laidKinds := [.data, .data, .data], laidTests := true, laidLooks := .later }
def FlattenAloneCardSaid : Prop := Claim7.holds Tryz.pinned (.plain (OpenSpec.ofChange flattenAloneSpec)) flattenAloneCard

/-- THE TIED CARD OF 'overseerlaw19.FlattenSteps'. -/
def flattenStepsCard : Claim7 := { stood := { row := flattenStepsRow, standIns := [], harness := (true, "b8ce82b2229a5e26edf766f3eced9ae1db9efa8835f4cdf42caa69faac741d83"), looks := false }, kinds := [], alts := [], laidByText := true, laidKinds := [.data, .data, .data], laidTests := true, laidLooks := .later }
def FlattenStepsCardSaid : Prop := Claim7.holds Tryz.pinned (.plain (OpenSpec.ofChange flattenStepsSpec)) flattenStepsCard

/-- THE TIED CARD OF 'overseerlaw19.FlattenProduct'. -/
def flattenProductCard : Claim7 := { stood := { row := flattenProductRow, standIns := [], harness := (true, "b8ce82b2229a5e26edf766f3eced9ae1db9efa8835f4cdf42caa69faac741d83"), looks := false }, kinds := [], alts := [], laidByText := true, laidKinds := [.data, .data, .data], laidTests := true, laidLooks := .later }
def FlattenProductCardSaid : Prop := Claim7.holds Tryz.pinned (.plain (OpenSpec.ofChange flattenProductSpec)) flattenProductCard

/-- THE SECOND FORM's CARD OF 'overseerlaw19.FlattenJoins'. -/
def flattenJoinsUptoCard : Claim7 := { stood := { row := flattenJoinsUptoRow, standIns := [], harness := (true, "b8ce82b2229a5e26edf766f3eced9ae1db9efa8835f4cdf42caa69faac741d83"), looks := false }, kinds := [], alts := [], laidByText := true, laidKinds := [.data, .data, .data], laidTests := true, laidLooks := .later }
def FlattenJoinsUptoCardSaid : Prop := Claim7.holds Tryz.pinned (.plain (OpenSpec.upto flattenJoinsSpec)) flattenJoinsUptoCard

/-- THE SECOND FORM's CARD OF 'overseerlaw19.FlattenRefuses'. -/
def flattenRefusesUptoCard : Claim7 := { stood := { row := flattenRefusesUptoRow, standIns := [], harness := (true, "b8ce82b2229a5e26edf766f3eced9ae1db9efa8835f4cdf42caa69faac741d83"), looks := false }, kinds := [], alts := [], laidByText := true, laidKinds := [.data, .data, .data], laidTests := true, laidLooks := .later }
def FlattenRefusesUptoCardSaid : Prop := Claim7.holds Tryz.pinned (.plain (OpenSpec.upto flattenRefusesSpec)) flattenRefusesUptoCard

/-- THE SECOND FORM's CARD OF 'overseerlaw19.FlattenAlone'. -/
def flattenAloneUptoCard : Claim7 := { stood := { row := flattenAloneUptoRow, standIns := [], harness := (true, "b8ce82b2229a5e26edf766f3eced9ae1db9efa8835f4cdf42caa69faac741d83"), looks := false }, kinds := [], alts := [], laidByText := true, laidKinds := [.data, .data, .data], laidTests := true, laidLooks := .later }
def FlattenAloneUptoCardSaid : Prop := Claim7.holds Tryz.pinned (.plain (OpenSpec.upto flattenAloneSpec)) flattenAloneUptoCard

/-- THE SECOND FORM's CARD OF 'overseerlaw19.FlattenSteps'. -/
def flattenStepsUptoCard : Claim7 := { stood := { row := flattenStepsUptoRow, standIns := [], harness := (true, "b8ce82b2229a5e26edf766f3eced9ae1db9efa8835f4cdf42caa69faac741d83"), looks := false }, kinds := [], alts := [], laidByText := true, laidKinds := [.data, .data, .data], laidTests := true, laidLooks := .later }
def FlattenStepsUptoCardSaid : Prop := Claim7.holds Tryz.pinned (.plain (OpenSpec.upto flattenStepsSpec)) flattenStepsUptoCard

/-- THE SECOND FORM's CARD OF 'overseerlaw19.FlattenProduct'. -/
def flattenProductUptoCard : Claim7 := { stood := { row := flattenProductUptoRow, standIns := [], harness := (true, "b8ce82b2229a5e26edf766f3eced9ae1db9efa8835f4cdf42caa69faac741d83"), looks := false }, kinds := [], alts := [], laidByText := true, laidKinds := [.data, .data, .data], laidTests := true, laidLooks := .later }
def FlattenProductUptoCardSaid : Prop := Claim7.holds Tryz.pinned (.plain (OpenSpec.upto flattenProductSpec)) flattenProductUptoCard
end Rows
end Go.Proofs.YtdehnnadfbildaaGreatDoor
