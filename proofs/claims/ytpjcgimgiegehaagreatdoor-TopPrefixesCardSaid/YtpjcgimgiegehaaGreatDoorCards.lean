/-
  DERIVED. GIVEN WITH THE SEED: THE CARDS: each row of YtpjcgimgiegehaaGreatDoorRows.lean that lists a variable, with what it lists TIED to the program's text (the seventh form; the later family's looks); each row that meets fmt, with fmt's text TOLD by the authors' own Lean function (tested against real Go, not proved from fmt's source: count such statements apart). THE CARD IS WHAT COUNTS. Prove the row's statement (the work); the ties are given (YtpjcgimgiegehaaGreatDoorTie.lean); close each card by the builder's one call (the guide's Derived/Test/ToyasCard.lean, 'card_holds'). Laid BY PROGRAM, IN A SANDBOX (cutbox-door.mjs). By AI agents, Wed Nov 11 2026. No macro, syntax, notation, axiom, sorry.
-/
import Derived.Test.YtpjcgimgiegehaaGreatDoorRows
import GoSem.ClaimSeven
namespace Go.Proofs.YtpjcgimgiegehaaGreatDoor
namespace Rows

/-- THE TIED CARD OF 'breadboardtop.TopPrefixes'. -/
def topPrefixesCard : Claim7 := { stood := { row := topPrefixesRow, standIns := [], harness := (true, "f018553276f8120b884088d184f7c7d01ad9dcc9a3318a7083b97e5bc4b81b50"), looks := true }, kinds := [], alts := [], laidByText := true, laidKinds := [.data, .data, .data, .data, .listed, .data, .pinned], laidTests := true, laidLooks := .later }
def TopPrefixesCardSaid : Prop := Claim7.holds Tryz.pinned (.plain (OpenSpec.ofChange topPrefixesSpec)) topPrefixesCard

/-- THE SECOND FORM's CARD OF 'breadboardtop.TopPrefixes'. -/
def topPrefixesUptoCard : Claim7 := { stood := { row := topPrefixesUptoRow, standIns := [], harness := (true, "f018553276f8120b884088d184f7c7d01ad9dcc9a3318a7083b97e5bc4b81b50"), looks := true }, kinds := [], alts := [], laidByText := true, laidKinds := [.data, .data, .data, .data, .listed, .data, .pinned], laidTests := true, laidLooks := .later }
def TopPrefixesUptoCardSaid : Prop := Claim7.holds Tryz.pinned (.plain (OpenSpec.upto topPrefixesSpec)) topPrefixesUptoCard
end Rows
end Go.Proofs.YtpjcgimgiegehaaGreatDoor
