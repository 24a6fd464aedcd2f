/-
  DERIVED. GIVEN WITH THE SEED: THE CARDS: each row of YtmkgppbnhkihjaaDoorRows.lean that lists a variable, with what it lists TIED to the program's text (the seventh form; the later family's looks); each row that meets fmt, with fmt's text TOLD by the authors' own Lean function (tested against real Go, not proved from fmt's source: count such statements apart). THE CARD IS WHAT COUNTS. Prove the row's statement (the work); the ties are given (YtmkgppbnhkihjaaDoorTie.lean); close each card by the builder's one call (the guide's Derived/Test/ToyasCard.lean, 'card_holds'). Laid BY PROGRAM, IN A SANDBOX (cutbox-door.mjs). By AI agents, Wed Nov 11 2026. No macro, syntax, notation, axiom, sorry.
-/
import Derived.Test.YtmkgppbnhkihjaaDoorRows
import GoSem.ClaimSeven
namespace Go.Proofs.YtmkgppbnhkihjaaDoor
namespace Rows

/-- THE TIED CARD OF 'breadboardlaw02.ImagePuts'. -/
def imagePutsCard : Claim7 := { stood := { row := imagePutsRow, standIns := [], harness := (true, "32aabc7e9cc3bca25364bfeaab4edccf27feb2c24551d1295519903bb3e8460d"), looks := false }, kinds := [], alts := [], laidByText := true, laidKinds := [.data], laidTests := true, laidLooks := .later }
def ImagePutsCardSaid : Prop := Claim7.holds Tryd.pinned (.plain (OpenSpec.ofChange imagePutsSpec)) imagePutsCard

/-- THE TIED CARD OF 'breadboardlaw02.ImageOrder'. -/
def imageOrderCard : Claim7 := { stood := { row := imageOrderRow, standIns := [], harness := (true, "32aabc7e9cc3bca25364bfeaab4edccf27feb2c24551d1295519903bb3e8460d"), looks := false }, kinds := [], alts := [], laidByText := true, laidKinds := [.data], laidTests := true, laidLooks := .later }
def ImageOrderCardSaid : Prop := Claim7.holds Tryd.pinned (.plain (OpenSpec.ofChange imageOrderSpec)) imageOrderCard

/-- THE TIED CARD OF 'breadboardlaw02.ImageGets'. -/
def imageGetsCard : Claim7 := { stood := { row := imageGetsRow, standIns := [], harness := (true, "32aabc7e9cc3bca25364bfeaab4edccf27feb2c24551d1295519903bb3e8460d"), looks := false }, kinds := [], alts := [], laidByText := true, laidKinds := [.data], laidTests := true, laidLooks := .later }
def ImageGetsCardSaid : Prop := Claim7.holds Tryd.pinned (.plain (OpenSpec.ofChange imageGetsSpec)) imageGetsCard

/-- THE TIED CARD OF 'breadboardlaw02.ImageInverse'. -/
def imageInverseCard : Claim7 := { stood := { row := imageInverseRow, standIns := [], harness := (true, "32aabc7e9cc3bca25364bfeaab4edccf27feb2c24551d1295519903bb3e8460d"), looks := false }, kinds := [], alts := [], laidByText := true, laidKinds := [.data], laidTests := true, laidLooks := .later }
def ImageInverseCardSaid : Prop := Claim7.holds Tryd.pinned (.plain (OpenSpec.ofChange imageInverseSpec)) imageInverseCard

/-- THE TIED CARD OF 'breadboardlaw02.ImageNil'. -/
def imageNilCard : Claim7 := { stood := { row := imageNilRow, standIns := [], harness := (true, "32aabc7e9cc3bca25364bfeaab4edccf27feb2c24551d1295519903bb3e8460d"), looks := false }, kinds := [], alts := [], laidByText := true, laidKinds := [.data], laidTests := true, laidLooks := .later }
def ImageNilCardSaid : Prop := Claim7.holds Tryd.pinned (.plain (OpenSpec.ofChange imageNilSpec)) imageNilCard

/-- THE TIED CARD OF 'breadboardlaw02.ImageSame'. -/
def imageSameCard : Claim7 := { stood := { row := imageSameRow, standIns := [], harness := (true, "32aabc7e9cc3bca25364bfeaab4edccf27feb2c24551d1295519903bb3e8460d"), looks := false }, kinds := [], alts := [], laidByText := true, laidKinds := [.data], laidTests := true, laidLooks := .later }
def ImageSameCardSaid : Prop := Claim7.holds Tryd.pinned (.plain (OpenSpec.ofChange imageSameSpec)) imageSameCard

/-- THE SECOND FORM's CARD OF 'breadboardlaw02.ImagePuts'. -/
def imagePutsUptoCard : Claim7 := { stood := { row := imagePutsUptoRow, standIns := [], harness := (true, "32aabc7e9cc3bca25364bfeaab4edccf27feb2c24551d1295519903bb3e8460d"), looks := false }, kinds := [], alts := [], laidByText := true, laidKinds := [.data], laidTests := true, laidLooks := .later }
def ImagePutsUptoCardSaid : Prop := Claim7.holds Tryd.pinned (.plain (OpenSpec.upto imagePutsSpec)) imagePutsUptoCard

/-- THE SECOND FORM's CARD OF 'breadboardlaw02.ImageOrder'. -/
def imageOrderUptoCard : Claim7 := { stood := { row := imageOrderUptoRow, standIns := [], harness := (true, "32aabc7e9cc3bca25364bfeaab4edccf27feb2c24551d1295519903bb3e8460d"), looks := false }, kinds := [], alts := [], laidByText := true, laidKinds := [.data], laidTests := true, laidLooks := .later }
def ImageOrderUptoCardSaid : Prop := Claim7.holds Tryd.pinned (.plain (OpenSpec.upto imageOrderSpec)) imageOrderUptoCard

/-- THE SECOND FORM's CARD OF 'breadboardlaw02.ImageGets'. -/
def imageGetsUptoCard : Claim7 := { stood := { row := imageGetsUptoRow, standIns := [], harness := (true, "32aabc7e9cc3bca25364bfeaab4edccf27feb2c24551d1295519903bb3e8460d"), looks := false }, kinds := [], alts := [], laidByText := true, laidKinds := [.data], laidTests := true, laidLooks := .later }
def ImageGetsUptoCardSaid : Prop := Claim7.holds Tryd.pinned (.plain (OpenSpec.upto imageGetsSpec)) imageGetsUptoCard

/-- THE SECOND FORM's CARD OF 'breadboardlaw02.ImageInverse'. -/
def imageInverseUptoCard : Claim7 := { stood := { row := imageInverseUptoRow, standIns := [], harness := (true, "32aabc7e9cc3bca25364bfeaab4edccf27feb2c24551d1295519903bb3e8460d"), looks := false }, kinds := [], alts := [], laidByText := true, laidKinds := [.data], laidTests := true, laidLooks := .later }
def ImageInverseUptoCardSaid : Prop := Claim7.holds Tryd.pinned (.plain (OpenSpec.upto imageInverseSpec)) imageInverseUptoCard

/-- THE SECOND FORM's CARD OF 'breadboardlaw02.ImageNil'. -/
def imageNilUptoCard : Claim7 := { stood := { row := imageNilUptoRow, standIns := [], harness := (true, "32aabc7e9cc3bca25364bfeaab4edccf27feb2c24551d1295519903bb3e8460d"), looks := false }, kinds := [], alts := [], laidByText := true, laidKinds := [.data], laidTests := true, laidLooks := .later }
def ImageNilUptoCardSaid : Prop := Claim7.holds Tryd.pinned (.plain (OpenSpec.upto imageNilSpec)) imageNilUptoCard

/-- THE SECOND FORM's CARD OF 'breadboardlaw02.ImageSame'. -/
def imageSameUptoCard : Claim7 := { stood := { row := imageSameUptoRow, standIns := [], harness := (true, "32aabc7e9cc3bca25364bfeaab4edccf27feb2c24551d1295519903bb3e8460d"), looks := false }, kinds := [], alts := [], laidByText := true, laidKinds := [.data], laidTests := true, laidLooks := .later }
def ImageSameUptoCardSaid : Prop := Claim7.holds Tryd.pinned (.plain (OpenSpec.upto imageSameSpec)) imageSameUptoCard
end Rows
end Go.Proofs.YtmkgppbnhkihjaaDoor
