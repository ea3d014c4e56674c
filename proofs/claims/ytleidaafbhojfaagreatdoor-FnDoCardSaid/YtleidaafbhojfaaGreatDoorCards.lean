/-
  DERIVED. GIVEN WITH THE SEED: THE CARDS: each row of YtleidaafbhojfaaGreatDoorRows.lean that lists a variable, with what it lists TIED to the program's text (the seventh form; the later family's looks); each row that meets fmt, with fmt's text TOLD by the authors' own Lean function (tested against real Go, not proved from fmt's source: count such statements apart). THE CARD IS WHAT COUNTS. Prove the row's statement (the work); the ties are given (YtleidaafbhojfaaGreatDoorTie.lean); close each card by the builder's one call (the guide's Derived/Test/ToyasCard.lean, 'card_holds'). Laid BY PROGRAM, IN A SANDBOX (cutbox-door.mjs). By AI agents, Wed Nov 11 2026. No macro, syntax, notation, axiom, sorry.
-/
import Derived.Test.YtleidaafbhojfaaGreatDoorRows
import GoSem.ClaimSeven
namespace Go.Proofs.YtleidaafbhojfaaGreatDoor
namespace Rows

/-- THE TIED CARD OF 'laws.FnExactDo'. -/
def fnExactDoCard : Claim7 := { stood := { row := fnExactDoRow, standIns := [], harness := (true, "d7b39c55a77ecc78ce25e6bb26347c3c8a63c8c712bcffd967aa35d42c287351"), looks := true }, kinds := [], alts := [], laidByText := true, laidKinds := [.data, .data, .data, .sentinel, .sentinel], laidTests := true, laidLooks := .later }
def FnExactDoCardSaid : Prop := Claim7.holds Tryz.pinned (.plain (OpenSpec.ofChange fnExactDoSpec)) fnExactDoCard

/-- THE TIED CARD OF 'laws.FnDo'. -/
def fnDoCard : Claim7 := { stood := { row := fnDoRow, standIns := [], harness := (true, "d7b39c55a77ecc78ce25e6bb26347c3c8a63c8c712bcffd967aa35d42c287351"), looks := true }, kinds := [], alts := [], laidByText := true, laidKinds := [.data, .data, .data, .sentinel, .sentinel], laidTests := true, laidLooks := .later }
def FnDoCardSaid : Prop := Claim7.holds Tryz.pinned (.plain (OpenSpec.ofChange fnDoSpec)) fnDoCard

/-- THE SECOND FORM's CARD OF 'laws.FnExactDo'. -/
def fnExactDoUptoCard : Claim7 := { stood := { row := fnExactDoUptoRow, standIns := [], harness := (true, "d7b39c55a77ecc78ce25e6bb26347c3c8a63c8c712bcffd967aa35d42c287351"), looks := true }, kinds := [], alts := [], laidByText := true, laidKinds := [.data, .data, .data, .sentinel, .sentinel], laidTests := true, laidLooks := .later }
def FnExactDoUptoCardSaid : Prop := Claim7.holds Tryz.pinned (.plain (OpenSpec.upto fnExactDoSpec)) fnExactDoUptoCard

/-- THE SECOND FORM's CARD OF 'laws.FnDo'. -/
def fnDoUptoCard : Claim7 := { stood := { row := fnDoUptoRow, standIns := [], harness := (true, "d7b39c55a77ecc78ce25e6bb26347c3c8a63c8c712bcffd967aa35d42c287351"), looks := true }, kinds := [], alts := [], laidByText := true, laidKinds := [.data, .data, .data, .sentinel, .sentinel], laidTests := true, laidLooks := .later }
def FnDoUptoCardSaid : Prop := Claim7.holds Tryz.pinned (.plain (OpenSpec.upto fnDoSpec)) fnDoUptoCard
end Rows
end Go.Proofs.YtleidaafbhojfaaGreatDoor
