/- The table of math/bits that the rows list: what the condition gives the walks, and a world for the witnesses. -/
import Derived.Test.YtmkgppbnhkihjaaDoorCards
import Derived.Test.YtmkgppbnhkihjaaDoorTie
import Derived.Test.YtmkgppbnhkihjaaDoorRuns
import Derived.WalkKit
import Derived.ProofKit
import Derived.OpenShut
import Derived.Deep.DeepHandedRow
import Derived.Lib.LaidTab
namespace Go.Proofs.YtmkgppbnhkihjaaDoor
open Go.ChangeShapes Go.WideShapes Go.ChangeAt Go.RowKit

theorem own : ownKnob Tryd.prog.godebug = none := by kernel_rfl
theorem laidOut : laidOutB Tryd.prog = true := by kernel_rfl
theorem gTab : Tryd.prog.globalNamed "math/bits.deBruijn64tab" = some 0 := by kernel_rfl
theorem gTabType : (Tryd.prog.globals[0]?).map (·.type) = some 76 := by kernel_rfl
theorem cells76 : Tryd.prog.cellsOf 76 = 64 := by kernel_rfl
theorem cells5t : Tryd.prog.cellsOf 5 = 1 := by kernel_rfl
def tabInts : List Int := Lib.deBruijn64tab.map fun (n : Nat) => (n : Int)
theorem laid_eq : [("math/bits.deBruijn64tab", (Rows.laid_math_bits_deBruijn64tab : DataW Unit))] = [("math/bits.deBruijn64tab", Lib.tabData .u8 tabInts)] := by kernel_rfl
theorem table {W : World} (h : laidMetH Tryd.prog [("math/bits.deBruijn64tab", Rows.laid_math_bits_deBruijn64tab)] W) : Tab W := by
  rw [laid_eq] at h
  have ht : Lib.TabIs Tryd.prog W "math/bits.deBruijn64tab" .u8 tabInts := Lib.tabIs_of_head (rest := []) gTab gTabType Tryd.underlying76 Tryd.underlying5 cells5t cells76 h
  intro j hj
  have hl : tabInts.length = Lib.deBruijn64tab.length := by simp [tabInts]
  have := ht.cell gTab j (by rw [hl]; exact hj)
  rw [this]
  congr 2
  simp [tabInts, List.getD, List.getElem?_eq_getElem hj]

noncomputable def laidWorld (os : Os) : World :=
  { World.holding Tryd.prog os ⟨#[], #[], []⟩ with heap := (World.holding Tryd.prog os ⟨#[], #[], []⟩).heap.modify 0 fun
      | .cells _ t frozen => .cells (Lib.deBruijn64tab.map fun (n : Nat) => Value.int .u8 (n : Int)).toArray t frozen
      | o => o }
end Go.Proofs.YtmkgppbnhkihjaaDoor
