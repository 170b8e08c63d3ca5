/-
  DERIVED. GIVEN WITH THE SEED: THE CARDS: each row of YtlcekmemdnjjbaaGreatDoorRows.lean that lists a variable, with what it lists TIED to the program's text (the seventh form; the later family's looks); each row that meets fmt, with fmt's text TOLD by the authors' own Lean function (tested against real Go, not proved from fmt's source: count such statements apart). THE CARD IS WHAT COUNTS. Prove the row's statement (the work); the ties are given (YtlcekmemdnjjbaaGreatDoorTie.lean); close each card by the builder's one call (the guide's Derived/Test/ToyasCard.lean, 'card_holds'). Laid BY PROGRAM, IN A SANDBOX (cutbox-door.mjs). By AI agents, Wed Nov 11 2026. No macro, syntax, notation, axiom, sorry.
-/
import Derived.Test.YtlcekmemdnjjbaaGreatDoorRows
import GoSem.ClaimSeven
namespace Go.Proofs.YtlcekmemdnjjbaaGreatDoor
namespace Rows

/-- THE TIED CARD OF 'overseerlaw37.ObservabilityMore'. -/
def observabilityMoreCard : Claim7 := { stood := { row := observabilityMoreRow, standIns := [], harness := (true, "5041c38c3c15c3199033450f7632fe41f4871cb850793ec5542bbc9f8af1fc7c"), looks := false }, kinds := [], alts := [], laidByText := true, laidKinds := [.data, .data, .data], laidTests := true, laidLooks := .later }
def ObservabilityMoreCardSaid : Prop := Claim7.holds Tryz.pinned (.plain (OpenSpec.ofChange observabilityMoreSpec)) observabilityMoreCard

/-- THE TIED CARD OF 'overseerlaw37.ObservabilityWorks'. -/
def observabilityWorksCard : Claim7 := { stood := { row := observabilityWorksRow, standIns := [], harness := (true, "5041c38c3c15c3199033450f7632fe41f4871cb850793ec5542bbc9f8af1fc7c"), looks := false }, kinds := [], alts := [], laidByText := true, laidKinds := [.data, .data, .data], laidTests := true, laidLooks := .later }
def ObservabilityWorksCardSaid : Prop := Claim7.holds Tryz.pinned (.plain (OpenSpec.ofChange observabilityWorksSpec)) observabilityWorksCard

/-- THE TIED CARD OF 'overseerlaw37.ObservabilityVerifies'. -/
def observabilityVerifiesCard : Claim7 := { stood := { row := observabilityVerifiesRow, standIns := [], harness := (true, "5041c38c3c15c3199033450f7632fe41f4871cb850793ec5542bbc9f8af1fc7c"), looks := false }, kinds := [], alts := [], laidByText := true, laidKinds := [.data, .data, .data], laidTests := true, laidLooks := .later }
def ObservabilityVerifiesCardSaid : Prop := Claim7.holds Tryz.pinned (.plain (OpenSpec.ofChange observabilityVerifiesSpec)) observabilityVerifiesCard

/-- THE TIED CARD OF 'overseerlaw37.ObservabilityRefuses'. -/
def observabilityRefusesCard : Claim7 := { stood := { row := observabilityRefusesRow, standIns := [], harness := (true, "5041c38c3c15c3199033450f7632fe41f4871cb850793ec5542bbc9f8af1fc7c"), looks := false }, kinds := [], alts := [], laidByText := true, laidKinds := [.data, .data, .data], laidTests := true, laidLooks := .later }
def ObservabilityRefusesCardSaid : Prop := Claim7.holds Tryz.pinned (.plain (OpenSpec.ofChange observabilityRefusesSpec)) observabilityRefusesCard

/-- THE TIED CARD OF 'overseerlaw19.FlattenProduct'. -/
def flattenProductCard : Claim7 := { stood := { row := flattenProductRow, standIns := [], harness := (true, "5041c38c3c15c3199033450f7632fe41f4871cb850793ec5542bbc9f8af1fc7c"), looks := false }, kinds := [], alts := [], laidByText := true, laidKinds := [.data, .data, .data], laidTests := true, laidLooks := .later }
def FlattenProductCardSaid : Prop := Claim7.holds Tryz.pinned (.plain (OpenSpec.ofChange flattenProductSpec)) flattenProductCard

/-- THE TIED CARD OF 'overseerlaw37.ObservabilityImplements'. -/
def observabilityImplementsCard : Claim7 := { stood := { row := observabilityImplementsRow, standIns := [], harness := (true, "5041c38c3c15c3199033450f7632fe41f4871cb850793ec5542bbc9f8af1fc7c"), looks := false }, kinds := [], alts := [], laidByText := true, laidKinds := [.data, .data, .data], laidTests := true, laidLooks := .later }
def ObservabilityImplementsCardSaid : Prop := Claim7.holds Tryz.pinned (.plain (OpenSpec.ofChange observabilityImplementsSpec)) observabilityImplementsCard

/-- THE TIED CARD OF 'overseerlaw37.ObservabilityLoops'. -/
def observabilityLoopsCard : Claim7 := { stood := { row := observabilityLoopsRow, standIns := [], harness := (true, "5041c38c3c15c3199033450f7632fe41f4871cb850793ec5542bbc9f8af1fc7c"), looks := false }, kinds := [], alts := [], laidByText := true, laidKinds := [.data, .data, .data], laidTests := true, laidLooks := .later }
def ObservabilityLoopsCardSaid : Prop := Claim7.holds Tryz.pinned (.plain (OpenSpec.ofChange observabilityLoopsSpec)) observabilityLoopsCard

/-- THE TIED CARD OF 'overseerlaw37.ObservabilityPermits'. -/
def observabilityPermitsCard : Claim7 := { stood := { row := observabilityPermitsRow, standIns := [], harness := (true, "5041c38c3c15c3199033450f7632fe41f4871cb850793ec5542bbc9f8af1fc7c"), looks := false }, kinds := [], alts := [], laidByText := true, laidKinds := [.data, .data, .data], laidTests := true, laidLooks := .later }
def ObservabilityPermitsCardSaid : Prop := Claim7.holds Tryz.pinned (.plain (OpenSpec.ofChange observabilityPermitsSpec)) observabilityPermitsCard

/-- THE TIED CARD OF 'overseerlaw37.ObservabilityDecides'. -/
def observabilityDecidesCard : Claim7 := { stood := { row := observabilityDecidesRow, standIns := [], harness := (true, "5041c38c3c15c3199033450f7632fe41f4871cb850793ec5542bbc9f8af1fc7c"), looks := false }, kinds := [], alts := [], laidByText := true, laidKinds := [.data, .data, .data], laidTests := true, laidLooks := .later }
def ObservabilityDecidesCardSaid : Prop := Claim7.holds Tryz.pinned (.plain (OpenSpec.ofChange observabilityDecidesSpec)) observabilityDecidesCard

/-- THE SECOND FORM's CARD OF 'overseerlaw37.ObservabilityMore'. -/
def observabilityMoreUptoCard : Claim7 := { stood := { row := observabilityMoreUptoRow, standIns := [], harness := (true, "5041c38c3c15c3199033450f7632fe41f4871cb850793ec5542bbc9f8af1fc7c"), looks := false }, kinds := [], alts := [], laidByText := true, laidKinds := [.data, .data, .data], laidTests := true, laidLooks := .later }
def ObservabilityMoreUptoCardSaid : Prop := Claim7.holds Tryz.pinned (.plain (OpenSpec.upto observabilityMoreSpec)) observabilityMoreUptoCard

/-- THE SECOND FORM's CARD OF 'overseerlaw37.ObservabilityWorks'. -/
def observabilityWorksUptoCard : Claim7 := { stood := { row := observabilityWorksUptoRow, standIns := [], harness := (true, "5041c38c3c15c3199033450f7632fe41f4871cb850793ec5542bbc9f8af1fc7c"), looks := false }, kinds := [], alts := [], laidByText := true, laidKinds := [.data, .data, .data], laidTests := true, laidLooks := .later }
def ObservabilityWorksUptoCardSaid : Prop := Claim7.holds Tryz.pinned (.plain (OpenSpec.upto observabilityWorksSpec)) observabilityWorksUptoCard

/-- THE SECOND FORM's CARD OF 'overseerlaw37.ObservabilityVerifies'. -/
def observabilityVerifiesUptoCard : Claim7 := { stood := { row := observabilityVerifiesUptoRow, standIns := [], harness := (true, "5041c38c3c15c3199033450f7632fe41f4871cb850793ec5542bbc9f8af1fc7c"), looks := false }, kinds := [], alts := [], laidByText := true, laidKinds := [.data, .data, .data], laidTests := true, laidLooks := .later }
def ObservabilityVerifiesUptoCardSaid : Prop := Claim7.holds Tryz.pinned (.plain (OpenSpec.upto observabilityVerifiesSpec)) observabilityVerifiesUptoCard

/-- THE SECOND FORM's CARD OF 'overseerlaw37.ObservabilityRefuses'. -/
def observabilityRefusesUptoCard : Claim7 := { stood := { row := observabilityRefusesUptoRow, standIns := [], harness := (true, "5041c38c3c15c3199033450f7632fe41f4871cb850793ec5542bbc9f8af1fc7c"), looks := false }, kinds := [], alts := [], laidByText := true, laidKinds := [.data, .data, .data], laidTests := true, laidLooks := .later }
def ObservabilityRefusesUptoCardSaid : Prop := Claim7.holds Tryz.pinned (.plain (OpenSpec.upto observabilityRefusesSpec)) observabilityRefusesUptoCard

/-- THE SECOND FORM's CARD OF 'overseerlaw19.FlattenProduct'. -/
def flattenProductUptoCard : Claim7 := { stood := { row := flattenProductUptoRow, standIns := [], harness := (true, "5041c38c3c15c3199033450f7632fe41f4871cb850793ec5542bbc9f8af1fc7c"), looks := false }, kinds := [], alts := [], laidByText := true, laidKinds := [.data, .data, .data], laidTests := true, laidLooks := .later }
def FlattenProductUptoCardSaid : Prop := Claim7.holds Tryz.pinned (.plain (OpenSpec.upto flattenProductSpec)) flattenProductUptoCard

/-- THE SECOND FORM's CARD OF 'overseerlaw37.ObservabilityImplements'. -/
def observabilityImplementsUptoCard : Claim7 := { stood := { row := observabilityImplementsUptoRow, standIns := [], harness := (true, "5041c38c3c15c3199033450f7632fe41f4871cb850793ec5542bbc9f8af1fc7c"), looks := false }, kinds := [], alts := [], laidByText := true, laidKinds := [.data, .data, .data], laidTests := true, laidLooks := .later }
def ObservabilityImplementsUptoCardSaid : Prop := Claim7.holds Tryz.pinned (.plain (OpenSpec.upto observabilityImplementsSpec)) observabilityImplementsUptoCard

/-- THE SECOND FORM's CARD OF 'overseerlaw37.ObservabilityLoops'. -/
def observabilityLoopsUptoCard : Claim7 := { stood := { row := observabilityLoopsUptoRow, standIns := [], harness := (true, "5041c38c3c15c3199033450f7632fe41f4871cb850793ec5542bbc9f8af1fc7c"), looks := false }, kinds := [], alts := [], laidByText := true, laidKinds := [.data, .data, .data], laidTests := true, laidLooks := .later }
def ObservabilityLoopsUptoCardSaid : Prop := Claim7.holds Tryz.pinned (.plain (OpenSpec.upto observabilityLoopsSpec)) observabilityLoopsUptoCard

/-- THE SECOND FORM's CARD OF 'overseerlaw37.ObservabilityPermits'. -/
def observabilityPermitsUptoCard : Claim7 := { stood := { row := observabilityPermitsUptoRow, standIns := [], harness := (true, "5041c38c3c15c3199033450f7632fe41f4871cb850793ec5542bbc9f8af1fc7c"), looks := false }, kinds := [], alts := [], laidByText := true, laidKinds := [.data, .data, .data], laidTests := true, laidLooks := .later }
def ObservabilityPermitsUptoCardSaid : Prop := Claim7.holds Tryz.pinned (.plain (OpenSpec.upto observabilityPermitsSpec)) observabilityPermitsUptoCard

/-- THE SECOND FORM's CARD OF 'overseerlaw37.ObservabilityDecides'. -/
def observabilityDecidesUptoCard : Claim7 := { stood := { row := observabilityDecidesUptoRow, standIns := [], harness := (true, "5041c38c3c15c3199033450f7632fe41f4871cb850793ec5542bbc9f8af1fc7c"), looks := false }, kinds := [], alts := [], laidByText := true, laidKinds := [.data, .data, .data], laidTests := true, laidLooks := .later }
def ObservabilityDecidesUptoCardSaid : Prop := Claim7.holds Tryz.pinned (.plain (OpenSpec.upto observabilityDecidesSpec)) observabilityDecidesUptoCard
end Rows
end Go.Proofs.YtlcekmemdnjjbaaGreatDoor
