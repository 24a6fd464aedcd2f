/-
  NARROWER THAN 'FOR EVERY INPUT', by the rows' own cells (each row's printed sentence says how): ImagePuts: laid · ImageOrder: laid · ImageGets: laid · ImageInverse: laid · ImageNil: laid · ImageSame: laid.
  DERIVED. THE GIVEN ROWS OF THIS SEAT. 6 by the template 'for every input the law returns true; each argument reads behind the call as it read before'; 0 by the template 'total and deterministic' (their statements: YtmkgppbnhkihjaaDoorTotals.lean).
  GIVEN WITH THE SEED: the statements are not yours to turn. If you find one false, say at which input.
  Laid BY PROGRAM, IN A SANDBOX (cutbox-rows.mjs): the forced cells as the released guide's own fill.sh prints them over the translation 14f66e3b587b1723… (all of the seat's roots in one cut). By AI agents, Wed Nov 11 2026. No macro, syntax, notation, axiom, sorry.
-/
import Derived.Test.YtmkgppbnhkihjaaDoorChecked
import GoSem.Claim
import GoSem.ClaimJoined
import GoSem.ClaimMapViews
import Derived.JoinedTies
import Derived.KernelRfl
namespace Go.Proofs.YtmkgppbnhkihjaaDoor
/- THE CELL 'sum', in the pinned program and in every row, IS THE sha256 OF THE DUMP (.gsa) THAT YtmkgppbnhkihjaaDoorProg.lean LOADS. Nothing in Lean hashes anything: it is a label: what it is worth is what the hold of that sum in a sandbox is worth. -/
noncomputable def Tryd.pinned : Pinned := { name := "ytmkgppbnhkihjaadoor", sum := "14f66e3b587b172313d388c92fcaab7bcaf8080601f338a2aa10c0cdbb8c0088", checked := Tryd.checked }
namespace Rows
def none {H : Type} : Left H := { results := [], args := [] }

/- WHAT THE LISTED PACKAGE-LEVEL VARIABLES READ AS WHEN THE CALL BEGINS. Each datum BY PROGRAM (the guide's laid-datum.mjs) off the statement by which the dump's own 'gosem.cut.vars' lays the variable. In a bare row this is a premise. The card (YtmkgppbnhkihjaaDoorCards.lean) ties it to the program's text. -/
def laid_math_bits_deBruijn64tab {H : Type} : DataW H := .agg [.lit (.int .u8 0), .lit (.int .u8 1), .lit (.int .u8 56), .lit (.int .u8 2), .lit (.int .u8 57), .lit (.int .u8 49), .lit (.int .u8 28), .lit (.int .u8 3), .lit (.int .u8 61), .lit (.int .u8 58), .lit (.int .u8 42), .lit (.int .u8 50), .lit (.int .u8 38), .lit (.int .u8 29), .lit (.int .u8 17), .lit (.int .u8 4), .lit (.int .u8 62), .lit (.int .u8 47), .lit (.int .u8 59), .lit (.int .u8 36), .lit (.int .u8 45), .lit (.int .u8 43), .lit (.int .u8 51), .lit (.int .u8 22), .lit (.int .u8 53), .lit (.int .u8 39), .lit (.int .u8 33), .lit (.int .u8 30), .lit (.int .u8 24), .lit (.int .u8 18), .lit (.int .u8 12), .lit (.int .u8 5), .lit (.int .u8 63), .lit (.int .u8 55), .lit (.int .u8 48), .lit (.int .u8 27), .lit (.int .u8 60), .lit (.int .u8 41), .lit (.int .u8 37), .lit (.int .u8 16), .lit (.int .u8 46), .lit (.int .u8 35), .lit (.int .u8 44), .lit (.int .u8 21), .lit (.int .u8 52), .lit (.int .u8 32), .lit (.int .u8 23), .lit (.int .u8 11), .lit (.int .u8 54), .lit (.int .u8 26), .lit (.int .u8 40), .lit (.int .u8 15), .lit (.int .u8 34), .lit (.int .u8 20), .lit (.int .u8 31), .lit (.int .u8 10), .lit (.int .u8 25), .lit (.int .u8 14), .lit (.int .u8 19), .lit (.int .u8 9), .lit (.int .u8 13), .lit (.int .u8 8), .lit (.int .u8 7), .lit (.int .u8 6)]

/-- 'breadboardlaw02.ImagePuts': WHATEVER THE INPUT: true; the input reads as it did. -/
def imagePutsSpec : ChangeSpec := { name := "imagePuts", fn := fun _ => fun
  | [d] => { results := [.lit (.bool true)], args := [d] }
  | _ => none }
def imagePutsRow : OpenClaim := { program := "ytmkgppbnhkihjaadoor", sum := "14f66e3b587b172313d388c92fcaab7bcaf8080601f338a2aa10c0cdbb8c0088", func := "breadboard/breadboardlaw02.ImagePuts", spec := "imagePuts", named := ["math/bits.deBruijn64tab"], apart := false, laid := [("math/bits.deBruijn64tab", laid_math_bits_deBruijn64tab)] }
def ImagePutsSaid : Prop := imagePutsRow.holds Tryd.pinned (OpenSpec.ofChange imagePutsSpec)

/-- ITS FALSE NEIGHBOUR: 'it returns false'. Refute it at one input. -/
def imagePutsWrong : ChangeSpec := { name := "imagePuts", fn := fun _ => fun
  | [d] => { results := [.lit (.bool false)], args := [d] }
  | _ => none }
def ImagePutsWrongFalsely : Prop := imagePutsRow.holds Tryd.pinned (OpenSpec.ofChange imagePutsWrong)

/-- 'breadboardlaw02.ImageOrder': WHATEVER THE INPUT: true; the input reads as it did. -/
def imageOrderSpec : ChangeSpec := { name := "imageOrder", fn := fun _ => fun
  | [d] => { results := [.lit (.bool true)], args := [d] }
  | _ => none }
def imageOrderRow : OpenClaim := { program := "ytmkgppbnhkihjaadoor", sum := "14f66e3b587b172313d388c92fcaab7bcaf8080601f338a2aa10c0cdbb8c0088", func := "breadboard/breadboardlaw02.ImageOrder", spec := "imageOrder", named := ["math/bits.deBruijn64tab"], apart := false, laid := [("math/bits.deBruijn64tab", laid_math_bits_deBruijn64tab)] }
def ImageOrderSaid : Prop := imageOrderRow.holds Tryd.pinned (OpenSpec.ofChange imageOrderSpec)

/-- ITS FALSE NEIGHBOUR: 'it returns false'. Refute it at one input. -/
def imageOrderWrong : ChangeSpec := { name := "imageOrder", fn := fun _ => fun
  | [d] => { results := [.lit (.bool false)], args := [d] }
  | _ => none }
def ImageOrderWrongFalsely : Prop := imageOrderRow.holds Tryd.pinned (OpenSpec.ofChange imageOrderWrong)

/-- 'breadboardlaw02.ImageGets': WHATEVER THE INPUT: true; the input reads as it did. -/
def imageGetsSpec : ChangeSpec := { name := "imageGets", fn := fun _ => fun
  | [d1, d2] => { results := [.lit (.bool true)], args := [d1, d2] }
  | _ => none }
def imageGetsRow : OpenClaim := { program := "ytmkgppbnhkihjaadoor", sum := "14f66e3b587b172313d388c92fcaab7bcaf8080601f338a2aa10c0cdbb8c0088", func := "breadboard/breadboardlaw02.ImageGets", spec := "imageGets", named := ["math/bits.deBruijn64tab"], apart := false, laid := [("math/bits.deBruijn64tab", laid_math_bits_deBruijn64tab)] }
def ImageGetsSaid : Prop := imageGetsRow.holds Tryd.pinned (OpenSpec.ofChange imageGetsSpec)

/-- ITS FALSE NEIGHBOUR: 'it returns false'. Refute it at one input. -/
def imageGetsWrong : ChangeSpec := { name := "imageGets", fn := fun _ => fun
  | [d1, d2] => { results := [.lit (.bool false)], args := [d1, d2] }
  | _ => none }
def ImageGetsWrongFalsely : Prop := imageGetsRow.holds Tryd.pinned (OpenSpec.ofChange imageGetsWrong)

/-- 'breadboardlaw02.ImageInverse': WHATEVER THE INPUT: true; the input reads as it did. -/
def imageInverseSpec : ChangeSpec := { name := "imageInverse", fn := fun _ => fun
  | [d] => { results := [.lit (.bool true)], args := [d] }
  | _ => none }
def imageInverseRow : OpenClaim := { program := "ytmkgppbnhkihjaadoor", sum := "14f66e3b587b172313d388c92fcaab7bcaf8080601f338a2aa10c0cdbb8c0088", func := "breadboard/breadboardlaw02.ImageInverse", spec := "imageInverse", unfollowed := true, recurses := true, named := ["math/bits.deBruijn64tab"], apart := false, laid := [("math/bits.deBruijn64tab", laid_math_bits_deBruijn64tab)] }
def ImageInverseSaid : Prop := imageInverseRow.holds Tryd.pinned (OpenSpec.ofChange imageInverseSpec)

/-- ITS FALSE NEIGHBOUR: 'it returns false'. Refute it at one input. -/
def imageInverseWrong : ChangeSpec := { name := "imageInverse", fn := fun _ => fun
  | [d] => { results := [.lit (.bool false)], args := [d] }
  | _ => none }
def ImageInverseWrongFalsely : Prop := imageInverseRow.holds Tryd.pinned (OpenSpec.ofChange imageInverseWrong)

/-- 'breadboardlaw02.ImageNil': WHATEVER THE INPUT: true; the input reads as it did. -/
def imageNilSpec : ChangeSpec := { name := "imageNil", fn := fun _ => fun
  | [d1, d2] => { results := [.lit (.bool true)], args := [d1, d2] }
  | _ => none }
def imageNilRow : OpenClaim := { program := "ytmkgppbnhkihjaadoor", sum := "14f66e3b587b172313d388c92fcaab7bcaf8080601f338a2aa10c0cdbb8c0088", func := "breadboard/breadboardlaw02.ImageNil", spec := "imageNil", unfollowed := true, recurses := true, named := ["math/bits.deBruijn64tab"], apart := false, laid := [("math/bits.deBruijn64tab", laid_math_bits_deBruijn64tab)] }
def ImageNilSaid : Prop := imageNilRow.holds Tryd.pinned (OpenSpec.ofChange imageNilSpec)

/-- ITS FALSE NEIGHBOUR: 'it returns false'. Refute it at one input. -/
def imageNilWrong : ChangeSpec := { name := "imageNil", fn := fun _ => fun
  | [d1, d2] => { results := [.lit (.bool false)], args := [d1, d2] }
  | _ => none }
def ImageNilWrongFalsely : Prop := imageNilRow.holds Tryd.pinned (OpenSpec.ofChange imageNilWrong)

/-- 'breadboardlaw02.ImageSame': WHATEVER THE INPUT: true; the input reads as it did. -/
def imageSameSpec : ChangeSpec := { name := "imageSame", fn := fun _ => fun
  | [d1, d2, d3] => { results := [.lit (.bool true)], args := [d1, d2, d3] }
  | _ => none }
def imageSameRow : OpenClaim := { program := "ytmkgppbnhkihjaadoor", sum := "14f66e3b587b172313d388c92fcaab7bcaf8080601f338a2aa10c0cdbb8c0088", func := "breadboard/breadboardlaw02.ImageSame", spec := "imageSame", unfollowed := true, recurses := true, named := ["math/bits.deBruijn64tab"], apart := false, laid := [("math/bits.deBruijn64tab", laid_math_bits_deBruijn64tab)] }
def ImageSameSaid : Prop := imageSameRow.holds Tryd.pinned (OpenSpec.ofChange imageSameSpec)

/-- ITS FALSE NEIGHBOUR: 'it returns false'. Refute it at one input. -/
def imageSameWrong : ChangeSpec := { name := "imageSame", fn := fun _ => fun
  | [d1, d2, d3] => { results := [.lit (.bool false)], args := [d1, d2, d3] }
  | _ => none }
def ImageSameWrongFalsely : Prop := imageSameRow.holds Tryd.pinned (OpenSpec.ofChange imageSameWrong)

/- THE SECOND FORM. 'bulk': how many values and letters a reading holds, each counted each time it is reached (what is shared counts as often as it is met; a slice's spare places count too). A statement '..UptoSaid' is the law's where the arguments, and the package variables that the reading takes, are together of bulk at most 1048576: NARROWER than '..Said'. Prove '..Said' where nothing that the law and all that it calls make is longer than what came in: it says more and counts as full. Else prove '..UptoSaid'. A law counts once. -/
mutual
def uptoBulk {H : Type} : DataW H → Nat
  | .lit (.string bytes) => bytes.length + 1
  | .lit _ => 1
  | .nil => 1
  | .ptr d => uptoBulk d + 1
  | .slice elems spare => uptoBulkAll elems + uptoBulkAll spare + 1
  | .agg parts => uptoBulkAll parts + 1
  | .iface _ d => uptoBulk d + 1
  | .map entries => uptoBulkEntries entries + 1
  | .held _ => 1
def uptoBulkAll {H : Type} : List (DataW H) → Nat
  | [] => 0
  | d :: r => uptoBulk d + uptoBulkAll r
def uptoBulkEntries {H : Type} : List (Lit × DataW H) → Nat
  | [] => 0
  | x :: r => uptoBulkEntry x + uptoBulkEntries r
def uptoBulkEntry {H : Type} : Lit × DataW H → Nat
  | (.string bytes, d) => bytes.length + uptoBulk d + 1
  | (_, d) => uptoBulk d + 1
 end
def uptoSmall : (H : Type) → List (DataW H) → Bool := fun _ ds => decide (uptoBulkAll ds ≤ 1048576)
def OpenSpec.upto (s : _root_.Go.ChangeSpec) : _root_.Go.OpenSpec := { _root_.Go.OpenSpec.ofChange s with cond := some uptoSmall }

/-- 'breadboardlaw02.ImagePuts', WHERE WHAT IT READS IS OF BULK AT MOST 1048576: true; the input reads as it did. -/
def imagePutsUptoRow : OpenClaim := { program := "ytmkgppbnhkihjaadoor", sum := "14f66e3b587b172313d388c92fcaab7bcaf8080601f338a2aa10c0cdbb8c0088", func := "breadboard/breadboardlaw02.ImagePuts", spec := "imagePuts", named := ["math/bits.deBruijn64tab"], apart := false, laid := [("math/bits.deBruijn64tab", laid_math_bits_deBruijn64tab)], narrowed := true }
def ImagePutsUptoSaid : Prop := imagePutsUptoRow.holds Tryd.pinned (OpenSpec.upto imagePutsSpec)

/-- 'breadboardlaw02.ImageOrder', WHERE WHAT IT READS IS OF BULK AT MOST 1048576: true; the input reads as it did. -/
def imageOrderUptoRow : OpenClaim := { program := "ytmkgppbnhkihjaadoor", sum := "14f66e3b587b172313d388c92fcaab7bcaf8080601f338a2aa10c0cdbb8c0088", func := "breadboard/breadboardlaw02.ImageOrder", spec := "imageOrder", named := ["math/bits.deBruijn64tab"], apart := false, laid := [("math/bits.deBruijn64tab", laid_math_bits_deBruijn64tab)], narrowed := true }
def ImageOrderUptoSaid : Prop := imageOrderUptoRow.holds Tryd.pinned (OpenSpec.upto imageOrderSpec)

/-- 'breadboardlaw02.ImageGets', WHERE WHAT IT READS IS OF BULK AT MOST 1048576: true; the input reads as it did. -/
def imageGetsUptoRow : OpenClaim := { program := "ytmkgppbnhkihjaadoor", sum := "14f66e3b587b172313d388c92fcaab7bcaf8080601f338a2aa10c0cdbb8c0088", func := "breadboard/breadboardlaw02.ImageGets", spec := "imageGets", named := ["math/bits.deBruijn64tab"], apart := false, laid := [("math/bits.deBruijn64tab", laid_math_bits_deBruijn64tab)], narrowed := true }
def ImageGetsUptoSaid : Prop := imageGetsUptoRow.holds Tryd.pinned (OpenSpec.upto imageGetsSpec)

/-- 'breadboardlaw02.ImageInverse', WHERE WHAT IT READS IS OF BULK AT MOST 1048576: true; the input reads as it did. -/
def imageInverseUptoRow : OpenClaim := { program := "ytmkgppbnhkihjaadoor", sum := "14f66e3b587b172313d388c92fcaab7bcaf8080601f338a2aa10c0cdbb8c0088", func := "breadboard/breadboardlaw02.ImageInverse", spec := "imageInverse", unfollowed := true, recurses := true, named := ["math/bits.deBruijn64tab"], apart := false, laid := [("math/bits.deBruijn64tab", laid_math_bits_deBruijn64tab)], narrowed := true }
def ImageInverseUptoSaid : Prop := imageInverseUptoRow.holds Tryd.pinned (OpenSpec.upto imageInverseSpec)

/-- 'breadboardlaw02.ImageNil', WHERE WHAT IT READS IS OF BULK AT MOST 1048576: true; the input reads as it did. -/
def imageNilUptoRow : OpenClaim := { program := "ytmkgppbnhkihjaadoor", sum := "14f66e3b587b172313d388c92fcaab7bcaf8080601f338a2aa10c0cdbb8c0088", func := "breadboard/breadboardlaw02.ImageNil", spec := "imageNil", unfollowed := true, recurses := true, named := ["math/bits.deBruijn64tab"], apart := false, laid := [("math/bits.deBruijn64tab", laid_math_bits_deBruijn64tab)], narrowed := true }
def ImageNilUptoSaid : Prop := imageNilUptoRow.holds Tryd.pinned (OpenSpec.upto imageNilSpec)

/-- 'breadboardlaw02.ImageSame', WHERE WHAT IT READS IS OF BULK AT MOST 1048576: true; the input reads as it did. -/
def imageSameUptoRow : OpenClaim := { program := "ytmkgppbnhkihjaadoor", sum := "14f66e3b587b172313d388c92fcaab7bcaf8080601f338a2aa10c0cdbb8c0088", func := "breadboard/breadboardlaw02.ImageSame", spec := "imageSame", unfollowed := true, recurses := true, named := ["math/bits.deBruijn64tab"], apart := false, laid := [("math/bits.deBruijn64tab", laid_math_bits_deBruijn64tab)], narrowed := true }
def ImageSameUptoSaid : Prop := imageSameUptoRow.holds Tryd.pinned (OpenSpec.upto imageSameSpec)

end Rows
end Go.Proofs.YtmkgppbnhkihjaaDoor
