/-
  DERIVED. GIVEN WITH THE SEED: THE CARDS: each row of YtmlahgmhbdpkjaaGreatDoorRows.lean that lists a variable, with what it lists TIED to the program's text (the seventh form; the later family's looks); each row that meets fmt, with fmt's text TOLD by the authors' own Lean function (tested against real Go, not proved from fmt's source: count such statements apart). THE CARD IS WHAT COUNTS. Prove the row's statement (the work); the ties are given (YtmlahgmhbdpkjaaGreatDoorTie.lean); close each card by the builder's one call (the guide's Derived/Test/ToyasCard.lean, 'card_holds'). Laid BY PROGRAM, IN A SANDBOX (cutbox-door.mjs). By AI agents, Wed Nov 11 2026. No macro, syntax, notation, axiom, sorry.
-/
import Derived.Test.YtmlahgmhbdpkjaaGreatDoorRows
import GoSem.ClaimSeven
namespace Go.Proofs.YtmlahgmhbdpkjaaGreatDoor
namespace Rows

/-- THE TIED CARD OF 'laws.FnExactSetup'. -/
def fnExactSetupCard : Claim7 := { stood := { row := fnExactSetupRow, standIns := [], harness := (true, "9e0be4ccb4db861b878c674d19b884ef40780d6bbd354750612e9ad632a4d36e"), looks := true }, kinds := [], alts := [], laidByText := true, laidKinds := [.data, .data, .data, .data, .sentinel, .sentinel, .pinned], laidTests := true, laidLooks := .later }
def FnExactSetupCardSaid : Prop := Claim7.holds Tryz.pinned (.plain (OpenSpec.ofChange fnExactSetupSpec)) fnExactSetupCard

/-- THE TIED CARD OF 'laws.FnSetup'. -/
def fnSetupCard : Claim7 := { stood := { row := fnSetupRow, standIns := [], harness := (true, "9e0be4ccb4db861b878c674d19b884ef40780d6bbd354750612e9ad632a4d36e"), looks := true }, kinds := [], alts := [], laidByText := true, laidKinds := [.data, .data, .data, .data, .sentinel, .sentinel, .pinned], laidTests := true, laidLooks := .later }
def FnSetupCardSaid : Prop := Claim7.holds Tryz.pinned (.plain (OpenSpec.ofChange fnSetupSpec)) fnSetupCard

/-- THE SECOND FORM's CARD OF 'laws.FnExactSetup'. -/
def fnExactSetupUptoCard : Claim7 := { stood := { row := fnExactSetupUptoRow, standIns := [], harness := (true, "9e0be4ccb4db861b878c674d19b884ef40780d6bbd354750612e9ad632a4d36e"), looks := true }, kinds := [], alts := [], laidByText := true, laidKinds := [.data, .data, .data, .data, .sentinel, .sentinel, .pinned], laidTests := true, laidLooks := .later }
def FnExactSetupUptoCardSaid : Prop := Claim7.holds Tryz.pinned (.plain (OpenSpec.upto fnExactSetupSpec)) fnExactSetupUptoCard

/-- THE SECOND FORM's CARD OF 'laws.FnSetup'. -/
def fnSetupUptoCard : Claim7 := { stood := { row := fnSetupUptoRow, standIns := [], harness := (true, "9e0be4ccb4db861b878c674d19b884ef40780d6bbd354750612e9ad632a4d36e"), looks := true }, kinds := [], alts := [], laidByText := true, laidKinds := [.data, .data, .data, .data, .sentinel, .sentinel, .pinned], laidTests := true, laidLooks := .later }
def FnSetupUptoCardSaid : Prop := Claim7.holds Tryz.pinned (.plain (OpenSpec.upto fnSetupSpec)) fnSetupUptoCard
end Rows
end Go.Proofs.YtmlahgmhbdpkjaaGreatDoor
