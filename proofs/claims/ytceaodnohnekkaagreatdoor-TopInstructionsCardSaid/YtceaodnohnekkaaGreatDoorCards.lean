/-
  DERIVED. GIVEN WITH THE SEED: THE CARDS: each row of YtceaodnohnekkaaGreatDoorRows.lean that lists a variable, with what it lists TIED to the program's text (the seventh form; the later family's looks); each row that meets fmt, with fmt's text TOLD by the authors' own Lean function (tested against real Go, not proved from fmt's source: count such statements apart). THE CARD IS WHAT COUNTS. Prove the row's statement (the work); the ties are given (YtceaodnohnekkaaGreatDoorTie.lean); close each card by the builder's one call (the guide's Derived/Test/ToyasCard.lean, 'card_holds'). Laid BY PROGRAM, IN A SANDBOX (cutbox-door.mjs). By AI agents, Wed Nov 11 2026. No macro, syntax, notation, axiom, sorry.
-/
import Derived.Test.YtceaodnohnekkaaGreatDoorRows
import GoSem.ClaimSeven
namespace Go.Proofs.YtceaodnohnekkaaGreatDoor
namespace Rows

/-- THE TIED CARD OF 'breadboardtop.TopInstructions'. -/
def topInstructionsCard : Claim7 := { stood := { row := topInstructionsRow, standIns := [], harness := (true, "603abe60c2c89124684a58596cd743c9280a73a67d6b55fe512f6283f4417e10"), looks := true }, kinds := [], alts := [], laidByText := true, laidKinds := [.data, .data, .data, .data, .listed, .data, .pinned], laidTests := true, laidLooks := .later }
def TopInstructionsCardSaid : Prop := Claim7.holds Tryz.pinned (.plain (OpenSpec.ofChange topInstructionsSpec)) topInstructionsCard

/-- THE SECOND FORM's CARD OF 'breadboardtop.TopInstructions'. -/
def topInstructionsUptoCard : Claim7 := { stood := { row := topInstructionsUptoRow, standIns := [], harness := (true, "603abe60c2c89124684a58596cd743c9280a73a67d6b55fe512f6283f4417e10"), looks := true }, kinds := [], alts := [], laidByText := true, laidKinds := [.data, .data, .data, .data, .listed, .data, .pinned], laidTests := true, laidLooks := .later }
def TopInstructionsUptoCardSaid : Prop := Claim7.holds Tryz.pinned (.plain (OpenSpec.upto topInstructionsSpec)) topInstructionsUptoCard
end Rows
end Go.Proofs.YtceaodnohnekkaaGreatDoor
