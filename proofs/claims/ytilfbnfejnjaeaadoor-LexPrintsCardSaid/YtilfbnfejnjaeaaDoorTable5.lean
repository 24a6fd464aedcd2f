/- The tables that the row of LexPrints lists: what the condition gives the walks. -/
import Derived.Test.YtilfbnfejnjaeaaDoorTable16
namespace Go.Proofs.YtilfbnfejnjaeaaDoor
open Go.ChangeShapes Go.WideShapes Go.ChangeAt Go.RowKit

abbrev laidTabs5 : List (String × DataW Unit) := [("math/bits.deBruijn32tab", Rows.laid_math_bits_deBruijn32tab), ("math/bits.deBruijn64tab", Rows.laid_math_bits_deBruijn64tab), ("internal/strconv.uint64pow10", Rows.laid_internal_strconv_uint64pow10), ("unicode/utf8.acceptRanges", Rows.laid_unicode_utf8_acceptRanges), ("unicode/utf8.first", Rows.laid_unicode_utf8_first)]
theorem table5 {W : World} (h : laidMetH Tryd.prog laidTabs5 W) : T16 W := by
  have h1 : laidMet Tryd.prog laidTabs5 W := h
  obtain ⟨ps, ⟨_, _, _, _, _, q, _, _, _, _, ⟨g', t', cs, fuel, p2, q2, hg', ht', hvar, hd, _, _⟩, _⟩, _⟩ := h1
  obtain rfl := Option.some.inj (gTab.symm.trans hg')
  obtain rfl := Option.some.inj (gTabType.symm.trans ht')
  rw [laid_eq] at hd
  have ht : Lib.TabIs Tryd.prog W "math/bits.deBruijn64tab" .u8 tab64 := by
    unfold Lib.TabIs
    rw [hvar, ← Lib.cells_of_tab Tryd.underlying124 Tryd.underlying5 cells5t cells124 hd]
  have := ht.cell gTab 15 (by decide)
  unfold T16
  rw [this]
  rfl

end Go.Proofs.YtilfbnfejnjaeaaDoor
