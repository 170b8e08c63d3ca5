/-
  DERIVED. GIVEN WITH THE SEED: THE CARDS: each row of YtonnakcgopcfnaaDoorRows.lean that lists a variable, with what it lists TIED to the program's text (the seventh form; the later family's looks); each row that meets fmt, with fmt's text TOLD by the authors' own Lean function (tested against real Go, not proved from fmt's source: count such statements apart). THE CARD IS WHAT COUNTS. Prove the row's statement (the work); the ties are given (YtonnakcgopcfnaaDoorTie.lean); close each card by the builder's one call (the guide's Derived/Test/ToyasCard.lean, 'card_holds'). Laid BY PROGRAM, IN A SANDBOX (cutbox-door.mjs). By AI agents, Wed Nov 11 2026. No macro, syntax, notation, axiom, sorry.
-/
import Derived.Test.YtonnakcgopcfnaaDoorRows
import GoSem.ClaimSeven
namespace Go.Proofs.YtonnakcgopcfnaaDoor
namespace Rows

/-- THE TIED CARD OF 'overseerlaw15.GuardBoxes'. -/
def guardBoxesCard : Claim7 := { stood := { row := guardBoxesRow, standIns := [], harness := (true, "f192b8316d1a0a9ddb0467847558dca0731738cbe74d3c04634dce4c51f3c221"), looks := false }, kinds := [], alts := [], laidByText := true, laidKinds := [.data, .data, .data], laidTests := true, laidLooks := .later }
def GuardBoxesCardSaid : Prop := Claim7.holds Tryd.pinned (.plain (OpenSpec.ofChange guardBoxesSpec)) guardBoxesCard

/-- THE TIED CARD OF 'overseerlaw15.GuardSimplifies'. -/
def guardSimplifiesCard : Claim7 := { stood := { row := guardSimplifiesRow, standIns := [], harness := (true, "f192b8316d1a0a9ddb0467847558dca0731738cbe74d3c04634dce4c51f3c221"), looks := false }, kinds := [], alts := [], laidByText := true, laidKinds := [.data, .data, .data], laidTests := true, laidLooks := .later }
def GuardSimplifiesCardSaid : Prop := Claim7.holds Tryd.pinned (.plain (OpenSpec.ofChange guardSimplifiesSpec)) guardSimplifiesCard

/-- THE TIED CARD OF 'overseerlaw15.GuardCovers'. -/
def guardCoversCard : Claim7 := { stood := { row := guardCoversRow, standIns := [], harness := (true, "f192b8316d1a0a9ddb0467847558dca0731738cbe74d3c04634dce4c51f3c221"), looks := false }, kinds := [], alts := [], laidByText := true, laidKinds := [.data, .data, .data], laidTests := true, laidLooks := .later }
def GuardCoversCardSaid : Prop := Claim7.holds Tryd.pinned (.plain (OpenSpec.ofChange guardCoversSpec)) guardCoversCard

/-- THE TIED CARD OF 'overseerlaw15.GuardChecks'. -/
def guardChecksCard : Claim7 := { stood := { row := guardChecksRow, standIns := [], harness := (true, "f192b8316d1a0a9ddb0467847558dca0731738cbe74d3c04634dce4c51f3c221"), looks := false }, kinds := [], alts := [], laidByText := true, laidKinds := [.data, .data, .data], laidTests := true, laidLooks := .later }
def GuardChecksCardSaid : Prop := Claim7.holds Tryd.pinned (.plain (OpenSpec.ofChange guardChecksSpec)) guardChecksCard

/-- THE TIED CARD OF 'overseerlaw15.GuardCompares'. -/
def guardComparesCard : Claim7 := { stood := { row := guardComparesRow, standIns := [], harness := (true, "f192b8316d1a0a9ddb0467847558dca0731738cbe74d3c04634dce4c51f3c221"), looks := false }, kinds := [], alts := [], laidByText := true, laidKinds := [.data, .data, .data], laidTests := true, laidLooks := .later }
def GuardComparesCardSaid : Prop := Claim7.holds Tryd.pinned (.plain (OpenSpec.ofChange guardComparesSpec)) guardComparesCard

/-- THE TIED CARD OF 'overseerlaw15.GuardExprs'. -/
def guardExprsCard : Claim7 := { stood := { row := guardExprsRow, standIns := [], harness := (true, "f192b8316d1a0a9ddb0467847558dca0731738cbe74d3c04634dce4c51f3c221"), looks := false }, kinds := [], alts := [], laidByText := true, laidKinds := [.data, .data, .data], laidTests := true, laidLooks := .later }
def GuardExprsCardSaid : Prop := Claim7.holds Tryd.pinned (.plain (OpenSpec.ofChange guardExprsSpec)) guardExprsCard

/-- THE TIED CARD OF 'overseerlaw15.GuardRefuses'. -/
def guardRefusesCard : Claim7 := { stood := { row := guardRefusesRow, standIns := [], harness := (true, "f192b8316d1a0a9ddb0467847558dca0731738cbe74d3c04634dce4c51f3c221"), looks := false }, kinds := [], alts := [], laidByText := true, laidKinds := [.data, .data, .data], laidTests := true, laidLooks := .later }
def GuardRefusesCardSaid : Prop := Claim7.holds Tryd.pinned (.plain (OpenSpec.ofChange guardRefusesSpec)) guardRefusesCard

/-- THE TIED CARD OF 'overseerlaw15.GuardWeakest'. -/
def guardWeakestCard : Claim7 := { stood := { row := guardWeakestRow, standIns := [], harness := (true, "f192b8316d1a0a9ddb0467847558dca0731738cbe74d3c04634dce4c51f3c221"), looks := false }, kinds := [], alts := [], laidByText := true, laidKinds := [.data, .data, .data], laidTests := true, laidLooks := .later }
def GuardWeakestCardSaid : Prop := Claim7.holds Tryd.pinned (.plain (OpenSpec.ofChange guardWeakestSpec)) guardWeakestCard

/-- THE TIED CARD OF 'overseerlaw19.FlattenFinds'. -/
def flattenFindsCard : Claim7 := { stood := { row := flattenFindsRow, standIns := [], harness := (true, "f192b8316d1a0a9ddb0467847558dca0731738cbe74d3c04634dce4c51f3c221"), looks := false }, kinds := [], alts := [], laidByText := true, laidKinds := [.data, .data, .data], laidTests := true, laidLooks := .later }
def FlattenFindsCardSaid : Prop := Claim7.holds Tryd.pinned (.plain (OpenSpec.ofChange flattenFindsSpec)) flattenFindsCard

/-- THE TIED CARD OF 'overseerlaw19.FlattenFrom'. -/
def flattenFromCard : Claim7 := { stood := { row := flattenFromRow, standIns := [], harness := (true, "f192b8316d1a0a9ddb0467847558dca0731738cbe74d3c04634dce4c51f3c221"), looks := false }, kinds := [], alts := [], laidByText := true, laidKinds := [.data, .data, .data], laidTests := true, laidLooks := .later }
def FlattenFromCardSaid : Prop := Claim7.holds Tryd.pinned (.plain (OpenSpec.ofChange flattenFromSpec)) flattenFromCard

/-- THE TIED CARD OF 'overseerlaw19.FlattenUnfolds'. -/
def flattenUnfoldsCard : Claim7 := { stood := { row := flattenUnfoldsRow, standIns := [], harness := (true, "f192b8316d1a0a9ddb0467847558dca0731738cbe74d3c04634dce4c51f3c221"), looks := false }, kinds := [], alts := [], laidByText := true, laidKinds := [.data, .data, .data], laidTests := true, laidLooks := .later }
def FlattenUnfoldsCardSaid : Prop := Claim7.holds Tryd.pinned (.plain (OpenSpec.ofChange flattenUnfoldsSpec)) flattenUnfoldsCard

/-- THE TIED CARD OF 'overseerlaw19.FlattenRuns'. -/
def flattenRunsCard : Claim7 := { stood := { row := flattenRunsRow, standIns := [], harness := (true, "f192b8316d1a0a9ddb0467847558dca0731738cbe74d3c04634dce4c51f3c221"), looks := false }, kinds := [], alts := [], laidByText := true, laidKinds := [.data, .data, .data], laidTests := true, laidLooks := .later }
def FlattenRunsCardSaid : Prop := Claim7.holds Tryd.pinned (.plain (OpenSpec.ofChange flattenRunsSpec)) flattenRunsCard

/-- THE SECOND FORM's CARD OF 'overseerlaw15.GuardBoxes'. -/
def guardBoxesUptoCard : Claim7 := { stood := { row := guardBoxesUptoRow, standIns := [], harness := (true, "f192b8316d1a0a9ddb0467847558dca0731738cbe74d3c04634dce4c51f3c221"), looks := false }, kinds := [], alts := [], laidByText := true, laidKinds := [.data, .data, .data], laidTests := true, laidLooks := .later }
def GuardBoxesUptoCardSaid : Prop := Claim7.holds Tryd.pinned (.plain (OpenSpec.upto guardBoxesSpec)) guardBoxesUptoCard

/-- THE SECOND FORM's CARD OF 'overseerlaw15.GuardSimplifies'. -/
def guardSimplifiesUptoCard : Claim7 := { stood := { row := guardSimplifiesUptoRow, standIns := [], harness := (true, "f192b8316d1a0a9ddb0467847558dca0731738cbe74d3c04634dce4c51f3c221"), looks := false }, kinds := [], alts := [], laidByText := true, laidKinds := [.data, .data, .data], laidTests := true, laidLooks := .later }
def GuardSimplifiesUptoCardSaid : Prop := Claim7.holds Tryd.pinned (.plain (OpenSpec.upto guardSimplifiesSpec)) guardSimplifiesUptoCard

/-- THE SECOND FORM's CARD OF 'overseerlaw15.GuardCovers'. -/
def guardCoversUptoCard : Claim7 := { stood := { row := guardCoversUptoRow, standIns := [], harness := (true, "f192b8316d1a0a9ddb0467847558dca0731738cbe74d3c04634dce4c51f3c221"), looks := false }, kinds := [], alts := [], laidByText := true, laidKinds := [.data, .data, .data], laidTests := true, laidLooks := .later }
def GuardCoversUptoCardSaid : Prop := Claim7.holds Tryd.pinned (.plain (OpenSpec.upto guardCoversSpec)) guardCoversUptoCard

/-- THE SECOND FORM's CARD OF 'overseerlaw15.GuardChecks'. -/
def guardChecksUptoCard : Claim7 := { stood := { row := guardChecksUptoRow, standIns := [], harness := (true, "f192b8316d1a0a9ddb0467847558dca0731738cbe74d3c04634dce4c51f3c221"), looks := false }, kinds := [], alts := [], laidByText := true, laidKinds := [.data, .data, .data], laidTests := true, laidLooks := .later }
def GuardChecksUptoCardSaid : Prop := Claim7.holds Tryd.pinned (.plain (OpenSpec.upto guardChecksSpec)) guardChecksUptoCard

/-- THE SECOND FORM's CARD OF 'overseerlaw15.GuardCompares'. -/
def guardComparesUptoCard : Claim7 := { stood := { row := guardComparesUptoRow, standIns := [], harness := (true, "f192b8316d1a0a9ddb0467847558dca0731738cbe74d3c04634dce4c51f3c221"), looks := false }, kinds := [], alts := [], laidByText := true, laidKinds := [.data, .data, .data], laidTests := true, laidLooks := .later }
def GuardComparesUptoCardSaid : Prop := Claim7.holds Tryd.pinned (.plain (OpenSpec.upto guardComparesSpec)) guardComparesUptoCard

/-- THE SECOND FORM's CARD OF 'overseerlaw15.GuardExprs'. -/
def guardExprsUptoCard : Claim7 := { stood := { row := guardExprsUptoRow, standIns := [], harness := (true, "f192b8316d1a0a9ddb0467847558dca0731738cbe74d3c04634dce4c51f3c221"), looks := false }, kinds := [], alts := [], laidByText := true, laidKinds := [.data, .data, .data], laidTests := true, laidLooks := .later }
def GuardExprsUptoCardSaid : Prop := Claim7.holds Tryd.pinned (.plain (OpenSpec.upto guardExprsSpec)) guardExprsUptoCard

/-- THE SECOND FORM's CARD OF 'overseerlaw15.GuardRefuses'. -/
def guardRefusesUptoCard : Claim7 := { stood := { row := guardRefusesUptoRow, standIns := [], harness := (true, "f192b8316d1a0a9ddb0467847558dca0731738cbe74d3c04634dce4c51f3c221"), looks := false }, kinds := [], alts := [], laidByText := true, laidKinds := [.data, .data, .data], laidTests := true, laidLooks := .later }
def GuardRefusesUptoCardSaid : Prop := Claim7.holds Tryd.pinned (.plain (OpenSpec.upto guardRefusesSpec)) guardRefusesUptoCard

/-- THE SECOND FORM's CARD OF 'overseerlaw15.GuardWeakest'. -/
def guardWeakestUptoCard : Claim7 := { stood := { row := guardWeakestUptoRow, standIns := [], harness := (true, "f192b8316d1a0a9ddb0467847558dca0731738cbe74d3c04634dce4c51f3c221"), looks := false }, kinds := [], alts := [], laidByText := true, laidKinds := [.data, .data, .data], laidTests := true, laidLooks := .later }
def GuardWeakestUptoCardSaid : Prop := Claim7.holds Tryd.pinned (.plain (OpenSpec.upto guardWeakestSpec)) guardWeakestUptoCard

/-- THE SECOND FORM's CARD OF 'overseerlaw19.FlattenFinds'. -/
def flattenFindsUptoCard : Claim7 := { stood := { row := flattenFindsUptoRow, standIns := [], harness := (true, "f192b8316d1a0a9ddb0467847558dca0731738cbe74d3c04634dce4c51f3c221"), looks := false }, kinds := [], alts := [], laidByText := true, laidKinds := [.data, .data, .data], laidTests := true, laidLooks := .later }
def FlattenFindsUptoCardSaid : Prop := Claim7.holds Tryd.pinned (.plain (OpenSpec.upto flattenFindsSpec)) flattenFindsUptoCard

/-- THE SECOND FORM's CARD OF 'overseerlaw19.FlattenFrom'. -/
def flattenFromUptoCard : Claim7 := { stood := { row := flattenFromUptoRow, standIns := [], harness := (true, "f192b8316d1a0a9ddb0467847558dca0731738cbe74d3c04634dce4c51f3c221"), looks := false }, kinds := [], alts := [], laidByText := true, laidKinds := [.data, .data, .data], laidTests := true, laidLooks := .later }
def FlattenFromUptoCardSaid : Prop := Claim7.holds Tryd.pinned (.plain (OpenSpec.upto flattenFromSpec)) flattenFromUptoCard

/-- THE SECOND FORM's CARD OF 'overseerlaw19.FlattenUnfolds'. -/
def flattenUnfoldsUptoCard : Claim7 := { stood := { row := flattenUnfoldsUptoRow, standIns := [], harness := (true, "f192b8316d1a0a9ddb0467847558dca0731738cbe74d3c04634dce4c51f3c221"), looks := false }, kinds := [], alts := [], laidByText := true, laidKinds := [.data, .data, .data], laidTests := true, laidLooks := .later }
def FlattenUnfoldsUptoCardSaid : Prop := Claim7.holds Tryd.pinned (.plain (OpenSpec.upto flattenUnfoldsSpec)) flattenUnfoldsUptoCard

/-- THE SECOND FORM's CARD OF 'overseerlaw19.FlattenRuns'. -/
def flattenRunsUptoCard : Claim7 := { stood := { row := flattenRunsUptoRow, standIns := [], harness := (true, "f192b8316d1a0a9ddb0467847558dca0731738cbe74d3c04634dce4c51f3c221"), looks := false }, kinds := [], alts := [], laidByText := true, laidKinds := [.data, .data, .data], laidTests := true, laidLooks := .later }
def FlattenRunsUptoCardSaid : Prop := Claim7.holds Tryd.pinned (.plain (OpenSpec.upto flattenRunsSpec)) flattenRunsUptoCard
end Rows
end Go.Proofs.YtonnakcgopcfnaaDoor
