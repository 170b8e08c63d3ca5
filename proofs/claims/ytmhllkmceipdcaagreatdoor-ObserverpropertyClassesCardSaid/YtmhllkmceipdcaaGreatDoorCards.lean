/-
  DERIVED. GIVEN WITH THE SEED: THE CARDS: each row of YtmhllkmceipdcaaGreatDoorRows.lean that lists a variable, with what it lists TIED to the program's text (the seventh form; the later family's looks); each row that meets fmt, with fmt's text TOLD by the authors' own Lean function (tested against real Go, not proved from fmt's source: count such statements apart). THE CARD IS WHAT COUNTS. Prove the row's statement (the work); the ties are given (YtmhllkmceipdcaaGreatDoorTie.lean); close each card by the builder's one call (the guide's Derived/Test/ToyasCard.lean, 'card_holds'). Laid BY PROGRAM, IN A SANDBOX (cutbox-door.mjs). By AI agents, Wed Nov 11 2026. No macro, syntax, notation, axiom, sorry.
-/
import Derived.Test.YtmhllkmceipdcaaGreatDoorRows
import GoSem.ClaimSeven
namespace Go.Proofs.YtmhllkmceipdcaaGreatDoor
namespace Rows

/-- THE TIED CARD OF 'overseerlaw35.ObserverpropertyExtends'. -/
def observerpropertyExtendsCard : Claim7 := { stood := { row := observerpropertyExtendsRow, standIns := [], harness := (true, "b4b8d20f323c07a2e0011d90cfe26f08e9e82a9c49be057a626d172c03be83a4"), looks := false }, kinds := [], alts := [], laidByText := true, laidKinds := [.data, .data, .data], laidTests := true, laidLooks := .later }
def ObserverpropertyExtendsCardSaid : Prop := Claim7.holds Tryz.pinned (.plain (OpenSpec.ofChange observerpropertyExtendsSpec)) observerpropertyExtendsCard

/-- THE TIED CARD OF 'overseerlaw35.ObserverpropertyAll'. -/
def observerpropertyAllCard : Claim7 := { stood := { row := observerpropertyAllRow, standIns := [], harness := (true, "b4b8d20f323c07a2e0011d90cfe26f08e9e82a9c49be057a626d172c03be83a4"), looks := false }, kinds := [], alts := [], laidByText := true, laidKinds := [.data, .data, .data], laidTests := true, laidLooks := .later }
def ObserverpropertyAllCardSaid : Prop := Claim7.holds Tryz.pinned (.plain (OpenSpec.ofChange observerpropertyAllSpec)) observerpropertyAllCard

/-- THE TIED CARD OF 'overseerlaw35.ObserverpropertyClasses'. -/
def observerpropertyClassesCard : Claim7 := { stood := { row := observerpropertyClassesRow, standIns := [], harness := (true, "b4b8d20f323c07a2e0011d90cfe26f08e9e82a9c49be057a626d172c03be83a4"), looks := false }, kinds := [], alts := [], laidByText := true, laidKinds := [.data, .data, .data], laidTests := true, laidLooks := .later }
def ObserverpropertyClassesCardSaid : Prop := Claim7.holds Tryz.pinned (.plain (OpenSpec.ofChange observerpropertyClassesSpec)) observerpropertyClassesCard

/-- THE TIED CARD OF 'overseerlaw35.ObserverpropertyConsistent'. -/
def observerpropertyConsistentCard : Claim7 := { stood := { row := observerpropertyConsistentRow, standIns := [], harness := (true, "b4b8d20f323c07a2e0011d90cfe26f08e9e82a9c49be057a626d172c03be83a4"), looks := false }, kinds := [], alts := [], laidByText := true, laidKinds := [.data, .data, .data], laidTests := true, laidLooks := .later }
def ObserverpropertyConsistentCardSaid : Prop := Claim7.holds Tryz.pinned (.plain (OpenSpec.ofChange observerpropertyConsistentSpec)) observerpropertyConsistentCard

/-- THE TIED CARD OF 'overseerlaw35.ObserverpropertyObserver'. -/
def observerpropertyObserverCard : Claim7 := { stood := { row := observerpropertyObserverRow, standIns := [], harness := (true, "b4b8d20f323c07a2e0011d90cfe26f08e9e82a9c49be057a626d172c03be83a4"), looks := false }, kinds := [], alts := [], laidByText := true, laidKinds := [.data, .data, .data], laidTests := true, laidLooks := .later }
def ObserverpropertyObserverCardSaid : Prop := Claim7.holds Tryz.pinned (.plain (OpenSpec.ofChange observerpropertyObserverSpec)) observerpropertyObserverCard

/-- THE TIED CARD OF 'overseerlaw35.ObserverpropertyRefutes'. -/
def observerpropertyRefutesCard : Claim7 := { stood := { row := observerpropertyRefutesRow, standIns := [], harness := (true, "b4b8d20f323c07a2e0011d90cfe26f08e9e82a9c49be057a626d172c03be83a4"), looks := false }, kinds := [], alts := [], laidByText := true, laidKinds := [.data, .data, .data], laidTests := true, laidLooks := .later }
def ObserverpropertyRefutesCardSaid : Prop := Claim7.holds Tryz.pinned (.plain (OpenSpec.ofChange observerpropertyRefutesSpec)) observerpropertyRefutesCard

/-- THE TIED CARD OF 'overseerlaw35.ObserverpropertyWords'. -/
def observerpropertyWordsCard : Claim7 := { stood := { row := observerpropertyWordsRow, standIns := [], harness := (true, "b4b8d20f323c07a2e0011d90cfe26f08e9e82a9c49be057a626d172c03be83a4"), looks := false }, kinds := [], alts := [], laidByText := true, laidKinds := [.data, .data, .data], laidTests := true, laidLooks := .later }
def ObserverpropertyWordsCardSaid : Prop := Claim7.holds Tryz.pinned (.plain (OpenSpec.ofChange observerpropertyWordsSpec)) observerpropertyWordsCard

/-- THE TIED CARD OF 'overseerlaw35.ObserverpropertyChecks'. -/
def observerpropertyChecksCard : Claim7 := { stood := { row := observerpropertyChecksRow, standIns := [], harness := (true, "b4b8d20f323c07a2e0011d90cfe26f08e9e82a9c49be057a626d172c03be83a4"), looks := false }, kinds := [], alts := [], laidByText := true, laidKinds := [.data, .data, .data], laidTests := true, laidLooks := .later }
def ObserverpropertyChecksCardSaid : Prop := Claim7.holds Tryz.pinned (.plain (OpenSpec.ofChange observerpropertyChecksSpec)) observerpropertyChecksCard

/-- THE SECOND FORM's CARD OF 'overseerlaw35.ObserverpropertyExtends'. -/
def observerpropertyExtendsUptoCard : Claim7 := { stood := { row := observerpropertyExtendsUptoRow, standIns := [], harness := (true, "b4b8d20f323c07a2e0011d90cfe26f08e9e82a9c49be057a626d172c03be83a4"), looks := false }, kinds := [], alts := [], laidByText := true, laidKinds := [.data, .data, .data], laidTests := true, laidLooks := .later }
def ObserverpropertyExtendsUptoCardSaid : Prop := Claim7.holds Tryz.pinned (.plain (OpenSpec.upto observerpropertyExtendsSpec)) observerpropertyExtendsUptoCard

/-- THE SECOND FORM's CARD OF 'overseerlaw35.ObserverpropertyAll'. -/
def observerpropertyAllUptoCard : Claim7 := { stood := { row := observerpropertyAllUptoRow, standIns := [], harness := (true, "b4b8d20f323c07a2e0011d90cfe26f08e9e82a9c49be057a626d172c03be83a4"), looks := false }, kinds := [], alts := [], laidByText := true, laidKinds := [.data, .data, .data], laidTests := true, laidLooks := .later }
def ObserverpropertyAllUptoCardSaid : Prop := Claim7.holds Tryz.pinned (.plain (OpenSpec.upto observerpropertyAllSpec)) observerpropertyAllUptoCard

/-- THE SECOND FORM's CARD OF 'overseerlaw35.ObserverpropertyClasses'. -/
def observerpropertyClassesUptoCard : Claim7 := { stood := { row := observerpropertyClassesUptoRow, standIns := [], harness := (true, "b4b8d20f323c07a2e0011d90cfe26f08e9e82a9c49be057a626d172c03be83a4"), looks := false }, kinds := [], alts := [], laidByText := true, laidKinds := [.data, .data, .data], laidTests := true, laidLooks := .later }
def ObserverpropertyClassesUptoCardSaid : Prop := Claim7.holds Tryz.pinned (.plain (OpenSpec.upto observerpropertyClassesSpec)) observerpropertyClassesUptoCard

/-- THE SECOND FORM's CARD OF 'overseerlaw35.ObserverpropertyConsistent'. -/
def observerpropertyConsistentUptoCard : Claim7 := { stood := { row := observerpropertyConsistentUptoRow, standIns := [], harness := (true, "b4b8d20f323c07a2e0011d90cfe26f08e9e82a9c49be057a626d172c03be83a4"), looks := false }, kinds := [], alts := [], laidByText := true, laidKinds := [.data, .data, .data], laidTests := true, laidLooks := .later }
def ObserverpropertyConsistentUptoCardSaid : Prop := Claim7.holds Tryz.pinned (.plain (OpenSpec.upto observerpropertyConsistentSpec)) observerpropertyConsistentUptoCard

/-- THE SECOND FORM's CARD OF 'overseerlaw35.ObserverpropertyObserver'. -/
def observerpropertyObserverUptoCard : Claim7 := { stood := { row := observerpropertyObserverUptoRow, standIns := [], harness := (true, "b4b8d20f323c07a2e0011d90cfe26f08e9e82a9c49be057a626d172c03be83a4"), looks := false }, kinds := [], alts := [], laidByText := true, laidKinds := [.data, .data, .data], laidTests := true, laidLooks := .later }
def ObserverpropertyObserverUptoCardSaid : Prop := Claim7.holds Tryz.pinned (.plain (OpenSpec.upto observerpropertyObserverSpec)) observerpropertyObserverUptoCard

/-- THE SECOND FORM's CARD OF 'overseerlaw35.ObserverpropertyRefutes'. -/
def observerpropertyRefutesUptoCard : Claim7 := { stood := { row := observerpropertyRefutesUptoRow, standIns := [], harness := (true, "b4b8d20f323c07a2e0011d90cfe26f08e9e82a9c49be057a626d172c03be83a4"), looks := false }, kinds := [], alts := [], laidByText := true, laidKinds := [.data, .data, .data], laidTests := true, laidLooks := .later }
def ObserverpropertyRefutesUptoCardSaid : Prop := Claim7.holds Tryz.pinned (.plain (OpenSpec.upto observerpropertyRefutesSpec)) observerpropertyRefutesUptoCard

/-- THE SECOND FORM's CARD OF 'overseerlaw35.ObserverpropertyWords'. -/
def observerpropertyWordsUptoCard : Claim7 := { stood := { row := observerpropertyWordsUptoRow, standIns := [], harness := (true, "b4b8d20f323c07a2e0011d90cfe26f08e9e82a9c49be057a626d172c03be83a4"), looks := false }, kinds := [], alts := [], laidByText := true, laidKinds := [.data, .data, .data], laidTests := true, laidLooks := .later }
def ObserverpropertyWordsUptoCardSaid : Prop := Claim7.holds Tryz.pinned (.plain (OpenSpec.upto observerpropertyWordsSpec)) observerpropertyWordsUptoCard

/-- THE SECOND FORM's CARD OF 'overseerlaw35.ObserverpropertyChecks'. -/
def observerpropertyChecksUptoCard : Claim7 := { stood := { row := observerpropertyChecksUptoRow, standIns := [], harness := (true, "b4b8d20f323c07a2e0011d90cfe26f08e9e82a9c49be057a626d172c03be83a4"), looks := false }, kinds := [], alts := [], laidByText := true, laidKinds := [.data, .data, .data], laidTests := true, laidLooks := .later }
def ObserverpropertyChecksUptoCardSaid : Prop := Claim7.holds Tryz.pinned (.plain (OpenSpec.upto observerpropertyChecksSpec)) observerpropertyChecksUptoCard
end Rows
end Go.Proofs.YtmhllkmceipdcaaGreatDoor
