/- The tables that the rows of the package lex list: a world for the witnesses; the library's number. -/
import Derived.Test.YtilfbnfejnjaeaaDoorTable1
import Derived.Test.YtilfbnfejnjaeaaDoorLquote
import Derived.ChangeMaps5
namespace Go.Proofs.YtilfbnfejnjaeaaDoor
open Go.ChangeShapes Go.WideShapes Go.ChangeAt Go.RowKit

/-- The cells of a datum of integers. -/
def cellsD : Nat → DataW Unit → List Value
  | _, .lit (.int k n) => [.int k n]
  | f + 1, .agg ds => ds.flatMap (cellsD f)
  | _, _ => []
noncomputable def laidWorld5 (os : Os) : World :=
  { laidWorld os with heap := (((laidWorld os).heap.modify 2 (laidIn (cellsD 3 Rows.laid_unicode_utf8_first))).modify 3 (laidIn (cellsD 3 Rows.laid_unicode_utf8_acceptRanges))) }
theorem hasM {W : World} (h : W.ShapedOpen Tryd.prog) : HasM W :=
  Go.Proofs.cell_of_shapedOpen_int (zero := #[.int .i64 0]) (t := 3) h (of_decide_eq_true (by kernel_rfl)) (by kernel_rfl) rfl (by kernel_rfl) (by kernel_rfl) Tryd.underlying3
end Go.Proofs.YtilfbnfejnjaeaaDoor
