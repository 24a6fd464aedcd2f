/-
  DERIVED. GIVEN WITH THE SEED: THE CARDS: each row of YtilfbnfejnjaeaaDoorRows.lean that lists a variable, with what it lists TIED to the program's text (the seventh form; the later family's looks); each row that meets fmt, with fmt's text TOLD by the authors' own Lean function (tested against real Go, not proved from fmt's source: count such statements apart). THE CARD IS WHAT COUNTS. Prove the row's statement (the work); the ties are given (YtilfbnfejnjaeaaDoorTie.lean); close each card by the builder's one call (the guide's Derived/Test/ToyasCard.lean, 'card_holds'). Laid BY PROGRAM, IN A SANDBOX (cutbox-door.mjs). By AI agents, Wed Nov 11 2026. No macro, syntax, notation, axiom, sorry.
-/
import Derived.Test.YtilfbnfejnjaeaaDoorRows
import GoSem.ClaimSeven
namespace Go.Proofs.YtilfbnfejnjaeaaDoor
namespace Rows

/-- THE TIED CARD OF 'breadboardlaw01.NumParses'. -/
def numParsesCard : Claim7 := { stood := { row := numParsesRow, standIns := [], harness := (true, "24bfe689dc2d0fbc6c2772cb361353a18f60f86c1df108d74ffaa7d1b761d6ef"), looks := false }, kinds := [], alts := [], laidByText := true, laidKinds := [.data, .data, .data], laidTests := true, laidLooks := .later }
def NumParsesCardSaid : Prop := Claim7.holds Tryd.pinned (.plain (OpenSpec.ofChange numParsesSpec)) numParsesCard

/-- THE TIED CARD OF 'breadboardlaw01.NumTexts'. -/
def numTextsCard : Claim7 := { stood := { row := numTextsRow, standIns := [], harness := (true, "24bfe689dc2d0fbc6c2772cb361353a18f60f86c1df108d74ffaa7d1b761d6ef"), looks := false }, kinds := [], alts := [], laidByText := true, laidKinds := [.data, .data, .data], laidTests := true, laidLooks := .later }
def NumTextsCardSaid : Prop := Claim7.holds Tryd.pinned (.plain (OpenSpec.ofChange numTextsSpec)) numTextsCard

/-- THE TIED CARD OF 'breadboardlaw01.NumUppers'. -/
def numUppersCard : Claim7 := { stood := { row := numUppersRow, standIns := [], harness := (true, "24bfe689dc2d0fbc6c2772cb361353a18f60f86c1df108d74ffaa7d1b761d6ef"), looks := false }, kinds := [], alts := [], laidByText := true, laidKinds := [.data, .data, .data], laidTests := true, laidLooks := .later }
def NumUppersCardSaid : Prop := Claim7.holds Tryd.pinned (.plain (OpenSpec.ofChange numUppersSpec)) numUppersCard

/-- THE TIED CARD OF 'breadboardlaw01.NumLow'. -/
def numLowCard : Claim7 := { stood := { row := numLowRow, standIns := [], harness := (true, "24bfe689dc2d0fbc6c2772cb361353a18f60f86c1df108d74ffaa7d1b761d6ef"), looks := false }, kinds := [], alts := [], laidByText := true, laidKinds := [.data, .data, .data], laidTests := true, laidLooks := .later }
def NumLowCardSaid : Prop := Claim7.holds Tryd.pinned (.plain (OpenSpec.ofChange numLowSpec)) numLowCard

/-- THE TIED CARD OF 'breadboardlaw01.NumHexes'. -/
def numHexesCard : Claim7 := { stood := { row := numHexesRow, standIns := [], harness := (true, "24bfe689dc2d0fbc6c2772cb361353a18f60f86c1df108d74ffaa7d1b761d6ef"), looks := false }, kinds := [], alts := [], laidByText := true, laidKinds := [.data, .data, .data], laidTests := true, laidLooks := .later }
def NumHexesCardSaid : Prop := Claim7.holds Tryd.pinned (.plain (OpenSpec.ofChange numHexesSpec)) numHexesCard

/-- THE TIED CARD OF 'breadboardlaw01.NumBytes'. -/
def numBytesCard : Claim7 := { stood := { row := numBytesRow, standIns := [], harness := (true, "24bfe689dc2d0fbc6c2772cb361353a18f60f86c1df108d74ffaa7d1b761d6ef"), looks := false }, kinds := [], alts := [], laidByText := true, laidKinds := [.data, .data, .data], laidTests := true, laidLooks := .later }
def NumBytesCardSaid : Prop := Claim7.holds Tryd.pinned (.plain (OpenSpec.ofChange numBytesSpec)) numBytesCard

/-- THE TIED CARD OF 'breadboardlaw16.LexQuotes'. -/
def lexQuotesCard : Claim7 := { stood := { row := lexQuotesRow, standIns := [], harness := (true, "24bfe689dc2d0fbc6c2772cb361353a18f60f86c1df108d74ffaa7d1b761d6ef"), looks := false }, kinds := [], alts := [], laidByText := true, laidKinds := [.data, .pinned], laidTests := true, laidLooks := .later }
def LexQuotesCardSaid : Prop := Claim7.holds Tryd.pinned (.plain (OpenSpec.ofChange lexQuotesSpec)) lexQuotesCard

/-- THE TIED CARD OF 'breadboardlaw16.LexPrints'. -/
def lexPrintsCard : Claim7 := { stood := { row := lexPrintsRow, standIns := [], harness := (true, "24bfe689dc2d0fbc6c2772cb361353a18f60f86c1df108d74ffaa7d1b761d6ef"), looks := false }, kinds := [], alts := [], laidByText := true, laidKinds := [.data, .data, .data, .data, .pinned], laidTests := true, laidLooks := .later }
def LexPrintsCardSaid : Prop := Claim7.holds Tryd.pinned (.plain (OpenSpec.ofChange lexPrintsSpec)) lexPrintsCard

/-- THE SECOND FORM's CARD OF 'breadboardlaw01.NumParses'. -/
def numParsesUptoCard : Claim7 := { stood := { row := numParsesUptoRow, standIns := [], harness := (true, "24bfe689dc2d0fbc6c2772cb361353a18f60f86c1df108d74ffaa7d1b761d6ef"), looks := false }, kinds := [], alts := [], laidByText := true, laidKinds := [.data, .data, .data], laidTests := true, laidLooks := .later }
def NumParsesUptoCardSaid : Prop := Claim7.holds Tryd.pinned (.plain (OpenSpec.upto numParsesSpec)) numParsesUptoCard

/-- THE SECOND FORM's CARD OF 'breadboardlaw01.NumTexts'. -/
def numTextsUptoCard : Claim7 := { stood := { row := numTextsUptoRow, standIns := [], harness := (true, "24bfe689dc2d0fbc6c2772cb361353a18f60f86c1df108d74ffaa7d1b761d6ef"), looks := false }, kinds := [], alts := [], laidByText := true, laidKinds := [.data, .data, .data], laidTests := true, laidLooks := .later }
def NumTextsUptoCardSaid : Prop := Claim7.holds Tryd.pinned (.plain (OpenSpec.upto numTextsSpec)) numTextsUptoCard

/-- THE SECOND FORM's CARD OF 'breadboardlaw01.NumUppers'. -/
def numUppersUptoCard : Claim7 := { stood := { row := numUppersUptoRow, standIns := [], harness := (true, "24bfe689dc2d0fbc6c2772cb361353a18f60f86c1df108d74ffaa7d1b761d6ef"), looks := false }, kinds := [], alts := [], laidByText := true, laidKinds := [.data, .data, .data], laidTests := true, laidLooks := .later }
def NumUppersUptoCardSaid : Prop := Claim7.holds Tryd.pinned (.plain (OpenSpec.upto numUppersSpec)) numUppersUptoCard

/-- THE SECOND FORM's CARD OF 'breadboardlaw01.NumLow'. -/
def numLowUptoCard : Claim7 := { stood := { row := numLowUptoRow, standIns := [], harness := (true, "24bfe689dc2d0fbc6c2772cb361353a18f60f86c1df108d74ffaa7d1b761d6ef"), looks := false }, kinds := [], alts := [], laidByText := true, laidKinds := [.data, .data, .data], laidTests := true, laidLooks := .later }
def NumLowUptoCardSaid : Prop := Claim7.holds Tryd.pinned (.plain (OpenSpec.upto numLowSpec)) numLowUptoCard

/-- THE SECOND FORM's CARD OF 'breadboardlaw01.NumHexes'. -/
def numHexesUptoCard : Claim7 := { stood := { row := numHexesUptoRow, standIns := [], harness := (true, "24bfe689dc2d0fbc6c2772cb361353a18f60f86c1df108d74ffaa7d1b761d6ef"), looks := false }, kinds := [], alts := [], laidByText := true, laidKinds := [.data, .data, .data], laidTests := true, laidLooks := .later }
def NumHexesUptoCardSaid : Prop := Claim7.holds Tryd.pinned (.plain (OpenSpec.upto numHexesSpec)) numHexesUptoCard

/-- THE SECOND FORM's CARD OF 'breadboardlaw01.NumBytes'. -/
def numBytesUptoCard : Claim7 := { stood := { row := numBytesUptoRow, standIns := [], harness := (true, "24bfe689dc2d0fbc6c2772cb361353a18f60f86c1df108d74ffaa7d1b761d6ef"), looks := false }, kinds := [], alts := [], laidByText := true, laidKinds := [.data, .data, .data], laidTests := true, laidLooks := .later }
def NumBytesUptoCardSaid : Prop := Claim7.holds Tryd.pinned (.plain (OpenSpec.upto numBytesSpec)) numBytesUptoCard

/-- THE SECOND FORM's CARD OF 'breadboardlaw16.LexQuotes'. -/
def lexQuotesUptoCard : Claim7 := { stood := { row := lexQuotesUptoRow, standIns := [], harness := (true, "24bfe689dc2d0fbc6c2772cb361353a18f60f86c1df108d74ffaa7d1b761d6ef"), looks := false }, kinds := [], alts := [], laidByText := true, laidKinds := [.data, .pinned], laidTests := true, laidLooks := .later }
def LexQuotesUptoCardSaid : Prop := Claim7.holds Tryd.pinned (.plain (OpenSpec.upto lexQuotesSpec)) lexQuotesUptoCard

/-- THE SECOND FORM's CARD OF 'breadboardlaw16.LexPrints'. -/
def lexPrintsUptoCard : Claim7 := { stood := { row := lexPrintsUptoRow, standIns := [], harness := (true, "24bfe689dc2d0fbc6c2772cb361353a18f60f86c1df108d74ffaa7d1b761d6ef"), looks := false }, kinds := [], alts := [], laidByText := true, laidKinds := [.data, .data, .data, .data, .pinned], laidTests := true, laidLooks := .later }
def LexPrintsUptoCardSaid : Prop := Claim7.holds Tryd.pinned (.plain (OpenSpec.upto lexPrintsSpec)) lexPrintsUptoCard
end Rows
end Go.Proofs.YtilfbnfejnjaeaaDoor
