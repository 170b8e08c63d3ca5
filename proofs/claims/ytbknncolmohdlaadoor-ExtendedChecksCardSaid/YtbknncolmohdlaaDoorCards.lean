/-
  DERIVED. GIVEN WITH THE SEED: THE CARDS: each row of YtbknncolmohdlaaDoorRows.lean that lists a variable, with what it lists TIED to the program's text (the seventh form; the later family's looks); each row that meets fmt, with fmt's text TOLD by the authors' own Lean function (tested against real Go, not proved from fmt's source: count such statements apart). THE CARD IS WHAT COUNTS. Prove the row's statement (the work); the ties are given (YtbknncolmohdlaaDoorTie.lean); close each card by the builder's one call (the guide's Derived/Test/ToyasCard.lean, 'card_holds'). Laid BY PROGRAM, IN A SANDBOX (cutbox-door.mjs). By AI agents, Wed Nov 11 2026. No macro, syntax, notation, axiom, sorry.
-/
import Derived.Test.YtbknncolmohdlaaDoorRows
import GoSem.ClaimSeven
namespace Go.Proofs.YtbknncolmohdlaaDoor
namespace Rows

/-- THE TIED CARD OF 'overseerlaw18.ExtendedLimits'. -/
def extendedLimitsCard : Claim7 := { stood := { row := extendedLimitsRow, standIns := [], harness := (true, "e602e6eabebc1169a142b478a9fbcff0edd02fcaa2e2ad1b6da088f189d2c0f5"), looks := false }, kinds := [], alts := [], laidByText := true, laidKinds := [.data, .data, .data], laidTests := true, laidLooks := .later }
def ExtendedLimitsCardSaid : Prop := Claim7.holds Tryd.pinned (.plain (OpenSpec.ofChange extendedLimitsSpec)) extendedLimitsCard

/-- THE TIED CARD OF 'overseerlaw18.ExtendedReaches'. -/
def extendedReachesCard : Claim7 := { stood := { row := extendedReachesRow, standIns := [], harness := (true, "e602e6eabebc1169a142b478a9fbcff0edd02fcaa2e2ad1b6da088f189d2c0f5"), looks := false }, kinds := [], alts := [], laidByText := true, laidKinds := [.data, .data, .data], laidTests := true, laidLooks := .later }
def ExtendedReachesCardSaid : Prop := Claim7.holds Tryd.pinned (.plain (OpenSpec.ofChange extendedReachesSpec)) extendedReachesCard

/-- THE TIED CARD OF 'overseerlaw18.ExtendedRuns'. -/
def extendedRunsCard : Claim7 := { stood := { row := extendedRunsRow, standIns := [], harness := (true, "e602e6eabebc1169a142b478a9fbcff0edd02fcaa2e2ad1b6da088f189d2c0f5"), looks := false }, kinds := [], alts := [], laidByText := true, laidKinds := [.data, .data, .data], laidTests := true, laidLooks := .later }
def ExtendedRunsCardSaid : Prop := Claim7.holds Tryd.pinned (.plain (OpenSpec.ofChange extendedRunsSpec)) extendedRunsCard

/-- THE TIED CARD OF 'overseerlaw18.ExtendedHolds'. -/
def extendedHoldsCard : Claim7 := { stood := { row := extendedHoldsRow, standIns := [], harness := (true, "e602e6eabebc1169a142b478a9fbcff0edd02fcaa2e2ad1b6da088f189d2c0f5"), looks := false }, kinds := [], alts := [], laidByText := true, laidKinds := [.data, .data, .data], laidTests := true, laidLooks := .later }
def ExtendedHoldsCardSaid : Prop := Claim7.holds Tryd.pinned (.plain (OpenSpec.ofChange extendedHoldsSpec)) extendedHoldsCard

/-- THE TIED CARD OF 'overseerlaw18.ExtendedStates'. -/
def extendedStatesCard : Claim7 := { stood := { row := extendedStatesRow, standIns := [], harness := (true, "e602e6eabebc1169a142b478a9fbcff0edd02fcaa2e2ad1b6da088f189d2c0f5"), looks := false }, kinds := [], alts := [], laidByText := true, laidKinds := [.data, .data, .data], laidTests := true, laidLooks := .later }
def ExtendedStatesCardSaid : Prop := Claim7.holds Tryd.pinned (.plain (OpenSpec.ofChange extendedStatesSpec)) extendedStatesCard

/-- THE TIED CARD OF 'overseerlaw18.ExtendedOverlaps'. -/
def extendedOverlapsCard : Claim7 := { stood := { row := extendedOverlapsRow, standIns := [], harness := (true, "e602e6eabebc1169a142b478a9fbcff0edd02fcaa2e2ad1b6da088f189d2c0f5"), looks := false }, kinds := [], alts := [], laidByText := true, laidKinds := [.data, .data, .data], laidTests := true, laidLooks := .later }
def ExtendedOverlapsCardSaid : Prop := Claim7.holds Tryd.pinned (.plain (OpenSpec.ofChange extendedOverlapsSpec)) extendedOverlapsCard

/-- THE TIED CARD OF 'overseerlaw18.ExtendedLeaves'. -/
def extendedLeavesCard : Claim7 := { stood := { row := extendedLeavesRow, standIns := [], harness := (true, "e602e6eabebc1169a142b478a9fbcff0edd02fcaa2e2ad1b6da088f189d2c0f5"), looks := false }, kinds := [], alts := [], laidByText := true, laidKinds := [.data, .data, .data], laidTests := true, laidLooks := .later }
def ExtendedLeavesCardSaid : Prop := Claim7.holds Tryd.pinned (.plain (OpenSpec.ofChange extendedLeavesSpec)) extendedLeavesCard

/-- THE TIED CARD OF 'overseerlaw18.ExtendedChecks'. -/
def extendedChecksCard : Claim7 := { stood := { row := extendedChecksRow, standIns := [], harness := (true, "e602e6eabebc1169a142b478a9fbcff0edd02fcaa2e2ad1b6da088f189d2c0f5"), looks := false }, kinds := [], alts := [], laidByText := true, laidKinds := [.data, .data, .data], laidTests := true, laidLooks := .later }
def ExtendedChecksCardSaid : Prop := Claim7.holds Tryd.pinned (.plain (OpenSpec.ofChange extendedChecksSpec)) extendedChecksCard

/-- THE SECOND FORM's CARD OF 'overseerlaw18.ExtendedLimits'. -/
def extendedLimitsUptoCard : Claim7 := { stood := { row := extendedLimitsUptoRow, standIns := [], harness := (true, "e602e6eabebc1169a142b478a9fbcff0edd02fcaa2e2ad1b6da088f189d2c0f5"), looks := false }, kinds := [], alts := [], laidByText := true, laidKinds := [.data, .data, .data], laidTests := true, laidLooks := .later }
def ExtendedLimitsUptoCardSaid : Prop := Claim7.holds Tryd.pinned (.plain (OpenSpec.upto extendedLimitsSpec)) extendedLimitsUptoCard

/-- THE SECOND FORM's CARD OF 'overseerlaw18.ExtendedReaches'. -/
def extendedReachesUptoCard : Claim7 := { stood := { row := extendedReachesUptoRow, standIns := [], harness := (true, "e602e6eabebc1169a142b478a9fbcff0edd02fcaa2e2ad1b6da088f189d2c0f5"), looks := false }, kinds := [], alts := [], laidByText := true, laidKinds := [.data, .data, .data], laidTests := true, laidLooks := .later }
def ExtendedReachesUptoCardSaid : Prop := Claim7.holds Tryd.pinned (.plain (OpenSpec.upto extendedReachesSpec)) extendedReachesUptoCard

/-- THE SECOND FORM's CARD OF 'overseerlaw18.ExtendedRuns'. -/
def extendedRunsUptoCard : Claim7 := { stood := { row := extendedRunsUptoRow, standIns := [], harness := (true, "e602e6eabebc1169a142b478a9fbcff0edd02fcaa2e2ad1b6da088f189d2c0f5"), looks := false }, kinds := [], alts := [], laidByText := true, laidKinds := [.data, .data, .data], laidTests := true, laidLooks := .later }
def ExtendedRunsUptoCardSaid : Prop := Claim7.holds Tryd.pinned (.plain (OpenSpec.upto extendedRunsSpec)) extendedRunsUptoCard

/-- THE SECOND FORM's CARD OF 'overseerlaw18.ExtendedHolds'. -/
def extendedHoldsUptoCard : Claim7 := { stood := { row := extendedHoldsUptoRow, standIns := [], harness := (true, "e602e6eabebc1169a142b478a9fbcff0edd02fcaa2e2ad1b6da088f189d2c0f5"), looks := false }, kinds := [], alts := [], laidByText := true, laidKinds := [.data, .data, .data], laidTests := true, laidLooks := .later }
def ExtendedHoldsUptoCardSaid : Prop := Claim7.holds Tryd.pinned (.plain (OpenSpec.upto extendedHoldsSpec)) extendedHoldsUptoCard

/-- THE SECOND FORM's CARD OF 'overseerlaw18.ExtendedStates'. -/
def extendedStatesUptoCard : Claim7 := { stood := { row := extendedStatesUptoRow, standIns := [], harness := (true, "e602e6eabebc1169a142b478a9fbcff0edd02fcaa2e2ad1b6da088f189d2c0f5"), looks := false }, kinds := [], alts := [], laidByText := true, laidKinds := [.data, .data, .data], laidTests := true, laidLooks := .later }
def ExtendedStatesUptoCardSaid : Prop := Claim7.holds Tryd.pinned (.plain (OpenSpec.upto extendedStatesSpec)) extendedStatesUptoCard

/-- THE SECOND FORM's CARD OF 'overseerlaw18.ExtendedOverlaps'. -/
def extendedOverlapsUptoCard : Claim7 := { stood := { row := extendedOverlapsUptoRow, standIns := [], harness := (true, "e602e6eabebc1169a142b478a9fbcff0edd02fcaa2e2ad1b6da088f189d2c0f5"), looks := false }, kinds := [], alts := [], laidByText := true, laidKinds := [.data, .data, .data], laidTests := true, laidLooks := .later }
def ExtendedOverlapsUptoCardSaid : Prop := Claim7.holds Tryd.pinned (.plain (OpenSpec.upto extendedOverlapsSpec)) extendedOverlapsUptoCard

/-- THE SECOND FORM's CARD OF 'overseerlaw18.ExtendedLeaves'. -/
def extendedLeavesUptoCard : Claim7 := { stood := { row := extendedLeavesUptoRow, standIns := [], harness := (true, "e602e6eabebc1169a142b478a9fbcff0edd02fcaa2e2ad1b6da088f189d2c0f5"), looks := false }, kinds := [], alts := [], laidByText := true, laidKinds := [.data, .data, .data], laidTests := true, laidLooks := .later }
def ExtendedLeavesUptoCardSaid : Prop := Claim7.holds Tryd.pinned (.plain (OpenSpec.upto extendedLeavesSpec)) extendedLeavesUptoCard

/-- THE SECOND FORM's CARD OF 'overseerlaw18.ExtendedChecks'. -/
def extendedChecksUptoCard : Claim7 := { stood := { row := extendedChecksUptoRow, standIns := [], harness := (true, "e602e6eabebc1169a142b478a9fbcff0edd02fcaa2e2ad1b6da088f189d2c0f5"), looks := false }, kinds := [], alts := [], laidByText := true, laidKinds := [.data, .data, .data], laidTests := true, laidLooks := .later }
def ExtendedChecksUptoCardSaid : Prop := Claim7.holds Tryd.pinned (.plain (OpenSpec.upto extendedChecksSpec)) extendedChecksUptoCard
end Rows
end Go.Proofs.YtbknncolmohdlaaDoor
