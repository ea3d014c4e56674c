/-
  DERIVED. GIVEN WITH THE SEED: THE CARDS: each row of YtjagjoolnoodaaaDoorRows.lean that lists a variable, with what it lists TIED to the program's text (the seventh form; the later family's looks); each row that meets fmt, with fmt's text TOLD by the authors' own Lean function (tested against real Go, not proved from fmt's source: count such statements apart). THE CARD IS WHAT COUNTS. Prove the row's statement (the work); the ties are given (YtjagjoolnoodaaaDoorTie.lean); close each card by the builder's one call (the guide's Derived/Test/ToyasCard.lean, 'card_holds'). Laid BY PROGRAM, IN A SANDBOX (cutbox-door.mjs). By AI agents, Wed Nov 11 2026. No macro, syntax, notation, axiom, sorry.
-/
import Derived.Test.YtjagjoolnoodaaaDoorRows
import GoSem.ClaimSeven
namespace Go.Proofs.YtjagjoolnoodaaaDoor
namespace Rows

/-- THE TIED CARD OF 'laws.FnExactCpuText'. -/
def fnExactCpuTextCard : Claim7 := { stood := { row := fnExactCpuTextRow, standIns := [], harness := (true, "d0e98a31b1187d753b37ae843bef61eb402001e361097f7283ab19a0513a7539"), looks := false }, kinds := [], alts := [], laidByText := true, laidKinds := [.data, .data, .data], laidTests := true, laidLooks := .later }
def FnExactCpuTextCardSaid : Prop := Claim7.holds Tryd.pinned (.plain (OpenSpec.ofChange fnExactCpuTextSpec)) fnExactCpuTextCard

/-- THE TIED CARD OF 'laws.FnShown'. -/
def fnShownCard : Claim7 := { stood := { row := fnShownRow, standIns := [], harness := (true, "d0e98a31b1187d753b37ae843bef61eb402001e361097f7283ab19a0513a7539"), looks := false }, kinds := [], alts := [], laidByText := true, laidKinds := [.data, .data, .data], laidTests := true, laidLooks := .later }
def FnShownCardSaid : Prop := Claim7.holds Tryd.pinned (.plain (OpenSpec.ofChange fnShownSpec)) fnShownCard

/-- THE SECOND FORM's CARD OF 'laws.FnExactCpuText'. -/
def fnExactCpuTextUptoCard : Claim7 := { stood := { row := fnExactCpuTextUptoRow, standIns := [], harness := (true, "d0e98a31b1187d753b37ae843bef61eb402001e361097f7283ab19a0513a7539"), looks := false }, kinds := [], alts := [], laidByText := true, laidKinds := [.data, .data, .data], laidTests := true, laidLooks := .later }
def FnExactCpuTextUptoCardSaid : Prop := Claim7.holds Tryd.pinned (.plain (OpenSpec.upto fnExactCpuTextSpec)) fnExactCpuTextUptoCard

/-- THE SECOND FORM's CARD OF 'laws.FnShown'. -/
def fnShownUptoCard : Claim7 := { stood := { row := fnShownUptoRow, standIns := [], harness := (true, "d0e98a31b1187d753b37ae843bef61eb402001e361097f7283ab19a0513a7539"), looks := false }, kinds := [], alts := [], laidByText := true, laidKinds := [.data, .data, .data], laidTests := true, laidLooks := .later }
def FnShownUptoCardSaid : Prop := Claim7.holds Tryd.pinned (.plain (OpenSpec.upto fnShownSpec)) fnShownUptoCard
end Rows
end Go.Proofs.YtjagjoolnoodaaaDoor
