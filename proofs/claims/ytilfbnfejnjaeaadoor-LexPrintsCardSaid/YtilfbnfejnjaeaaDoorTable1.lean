/- The tables that the rows list: what the condition gives the walks, and a world for the witnesses. -/
import Derived.Test.YtilfbnfejnjaeaaDoorCards
import Derived.Test.YtilfbnfejnjaeaaDoorTie
import Derived.Test.YtilfbnfejnjaeaaDoorTz
import Derived.WalkKit
import Derived.ProofKit
import Derived.OpenShut
import Derived.Deep.DeepHandedRow
import Derived.Lib.LaidTab
import Derived.Lib.TrailingZeros
import Derived.Lib.ItoaNum
import Derived.SizedLaws
namespace Go.Proofs.YtilfbnfejnjaeaaDoor
open Go.ChangeShapes Go.WideShapes Go.ChangeAt Go.RowKit

theorem own : ownKnob Tryd.prog.godebug = none := by kernel_rfl
theorem laidOut : laidOutB Tryd.prog = true := by kernel_rfl
theorem gTab : Tryd.prog.globalNamed "math/bits.deBruijn64tab" = some 5 := by kernel_rfl
theorem gTabType : (Tryd.prog.globals[5]?).map (·.type) = some 124 := by kernel_rfl
theorem cells124 : Tryd.prog.cellsOf 124 = 64 := by kernel_rfl
theorem cells5t : Tryd.prog.cellsOf 5 = 1 := by kernel_rfl
def tab64 : List Int := Lib.deBruijn64tab.map fun (n : Nat) => (n : Int)
abbrev laidTabs : List (String × DataW Unit) := [("math/bits.deBruijn32tab", Rows.laid_math_bits_deBruijn32tab), ("math/bits.deBruijn64tab", Rows.laid_math_bits_deBruijn64tab), ("internal/strconv.uint64pow10", Rows.laid_internal_strconv_uint64pow10)]
theorem laid_eq : (Rows.laid_math_bits_deBruijn64tab : DataW Unit) = Lib.tabData .u8 tab64 := by kernel_rfl
theorem table {W : World} (h : laidMetH Tryd.prog laidTabs W) : T16 W := by
  have h1 : laidMet Tryd.prog laidTabs W := h
  obtain ⟨ps, ⟨_, _, _, _, _, q, _, _, _, _, ⟨g', t', cs, fuel, p2, q2, hg', ht', hvar, hd, _, _⟩, _⟩, _⟩ := h1
  obtain rfl := Option.some.inj (gTab.symm.trans hg')
  obtain rfl := Option.some.inj (gTabType.symm.trans ht')
  rw [laid_eq] at hd
  have ht : Lib.TabIs Tryd.prog W "math/bits.deBruijn64tab" .u8 tab64 := by
    unfold Lib.TabIs
    rw [hvar, ← Lib.cells_of_tab Tryd.underlying124 Tryd.underlying5 cells5t cells124 hd]
  have := ht.cell gTab 15 (by decide)
  unfold T16
  rw [this]
  rfl

def laidIn (cs : List Value) : Obj → Obj
  | .cells _ t frozen => .cells cs.toArray t frozen
  | o => o
noncomputable def laidWorld (os : Os) : World :=
  { World.holding Tryd.prog os ⟨#[], #[], []⟩ with heap := (((World.holding Tryd.prog os ⟨#[], #[], []⟩).heap.modify 5 (laidIn (Lib.deBruijn64tab.map fun (n : Nat) => Value.int .u8 (n : Int)))).modify 4 (laidIn (Lib.deBruijn32tab.map fun (n : Nat) => Value.int .u8 (n : Int)))).modify 0 (laidIn (Lib.pow10Tab.map fun (n : Int) => Value.int .u64 n)) }
end Go.Proofs.YtilfbnfejnjaeaaDoor
