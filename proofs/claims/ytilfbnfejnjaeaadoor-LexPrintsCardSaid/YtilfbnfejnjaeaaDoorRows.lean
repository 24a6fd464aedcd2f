/-
  NARROWER THAN 'FOR EVERY INPUT', by the rows' own cells (each row's printed sentence says how): NumParses: laid · NumTexts: laid · NumUppers: laid · NumLow: laid · NumHexes: laid · NumBytes: laid · LexQuotes: laid · LexPrints: laid.
  DERIVED. THE GIVEN ROWS OF THIS SEAT. 8 by the template 'for every input the law returns true; each argument reads behind the call as it read before'; 0 by the template 'total and deterministic' (their statements: YtilfbnfejnjaeaaDoorTotals.lean).
  GIVEN WITH THE SEED: the statements are not yours to turn. If you find one false, say at which input.
  Laid BY PROGRAM, IN A SANDBOX (cutbox-rows.mjs): the forced cells as the released guide's own fill.sh prints them over the translation bf124b829d5ca3b1… (all of the seat's roots in one cut). By AI agents, Wed Nov 11 2026. No macro, syntax, notation, axiom, sorry.
-/
import Derived.Test.YtilfbnfejnjaeaaDoorChecked
import GoSem.PinnedTables
import GoSem.Claim
import GoSem.ClaimJoined
import GoSem.ClaimMapViews
import Derived.JoinedTies
import Derived.KernelRfl
namespace Go.Proofs.YtilfbnfejnjaeaaDoor
/- THE CELL 'sum', in the pinned program and in every row, IS THE sha256 OF THE DUMP (.gsa) THAT YtilfbnfejnjaeaaDoorProg.lean LOADS. Nothing in Lean hashes anything: it is a label: what it is worth is what the hold of that sum in a sandbox is worth. -/
noncomputable def Tryd.pinned : Pinned := { name := "ytilfbnfejnjaeaadoor", sum := "bf124b829d5ca3b107e0625339d3ef2ba888635bb73323ba2974b46ef01d576a", checked := Tryd.checked }
namespace Rows
def none {H : Type} : Left H := { results := [], args := [] }

/- WHAT THE LISTED PACKAGE-LEVEL VARIABLES READ AS WHEN THE CALL BEGINS. Each datum BY PROGRAM (the guide's laid-datum.mjs) off the statement by which the dump's own 'gosem.cut.vars' lays the variable. In a bare row this is a premise. The card (YtilfbnfejnjaeaaDoorCards.lean) ties it to the program's text. -/
def laid_math_bits_deBruijn32tab {H : Type} : DataW H := .agg [.lit (.int .u8 0), .lit (.int .u8 1), .lit (.int .u8 28), .lit (.int .u8 2), .lit (.int .u8 29), .lit (.int .u8 14), .lit (.int .u8 24), .lit (.int .u8 3), .lit (.int .u8 30), .lit (.int .u8 22), .lit (.int .u8 20), .lit (.int .u8 15), .lit (.int .u8 25), .lit (.int .u8 17), .lit (.int .u8 4), .lit (.int .u8 8), .lit (.int .u8 31), .lit (.int .u8 27), .lit (.int .u8 13), .lit (.int .u8 23), .lit (.int .u8 21), .lit (.int .u8 19), .lit (.int .u8 16), .lit (.int .u8 7), .lit (.int .u8 26), .lit (.int .u8 12), .lit (.int .u8 18), .lit (.int .u8 6), .lit (.int .u8 11), .lit (.int .u8 5), .lit (.int .u8 10), .lit (.int .u8 9)]
def laid_math_bits_deBruijn64tab {H : Type} : DataW H := .agg [.lit (.int .u8 0), .lit (.int .u8 1), .lit (.int .u8 56), .lit (.int .u8 2), .lit (.int .u8 57), .lit (.int .u8 49), .lit (.int .u8 28), .lit (.int .u8 3), .lit (.int .u8 61), .lit (.int .u8 58), .lit (.int .u8 42), .lit (.int .u8 50), .lit (.int .u8 38), .lit (.int .u8 29), .lit (.int .u8 17), .lit (.int .u8 4), .lit (.int .u8 62), .lit (.int .u8 47), .lit (.int .u8 59), .lit (.int .u8 36), .lit (.int .u8 45), .lit (.int .u8 43), .lit (.int .u8 51), .lit (.int .u8 22), .lit (.int .u8 53), .lit (.int .u8 39), .lit (.int .u8 33), .lit (.int .u8 30), .lit (.int .u8 24), .lit (.int .u8 18), .lit (.int .u8 12), .lit (.int .u8 5), .lit (.int .u8 63), .lit (.int .u8 55), .lit (.int .u8 48), .lit (.int .u8 27), .lit (.int .u8 60), .lit (.int .u8 41), .lit (.int .u8 37), .lit (.int .u8 16), .lit (.int .u8 46), .lit (.int .u8 35), .lit (.int .u8 44), .lit (.int .u8 21), .lit (.int .u8 52), .lit (.int .u8 32), .lit (.int .u8 23), .lit (.int .u8 11), .lit (.int .u8 54), .lit (.int .u8 26), .lit (.int .u8 40), .lit (.int .u8 15), .lit (.int .u8 34), .lit (.int .u8 20), .lit (.int .u8 31), .lit (.int .u8 10), .lit (.int .u8 25), .lit (.int .u8 14), .lit (.int .u8 19), .lit (.int .u8 9), .lit (.int .u8 13), .lit (.int .u8 8), .lit (.int .u8 7), .lit (.int .u8 6)]
def laid_internal_strconv_uint64pow10 {H : Type} : DataW H := .agg [.lit (.int .u64 1), .lit (.int .u64 10), .lit (.int .u64 100), .lit (.int .u64 1000), .lit (.int .u64 10000), .lit (.int .u64 100000), .lit (.int .u64 1000000), .lit (.int .u64 10000000), .lit (.int .u64 100000000), .lit (.int .u64 1000000000), .lit (.int .u64 10000000000), .lit (.int .u64 100000000000), .lit (.int .u64 1000000000000), .lit (.int .u64 10000000000000), .lit (.int .u64 100000000000000), .lit (.int .u64 1000000000000000), .lit (.int .u64 10000000000000000), .lit (.int .u64 100000000000000000), .lit (.int .u64 1000000000000000000), .lit (.int .u64 10000000000000000000)]
def laid_unicode_utf8_acceptRanges {H : Type} : DataW H := .agg [.agg [.lit (.int .u8 128), .lit (.int .u8 191)], .agg [.lit (.int .u8 160), .lit (.int .u8 191)], .agg [.lit (.int .u8 128), .lit (.int .u8 159)], .agg [.lit (.int .u8 144), .lit (.int .u8 191)], .agg [.lit (.int .u8 128), .lit (.int .u8 143)], .agg [.lit (.int .u8 0), .lit (.int .u8 0)], .agg [.lit (.int .u8 0), .lit (.int .u8 0)], .agg [.lit (.int .u8 0), .lit (.int .u8 0)], .agg [.lit (.int .u8 0), .lit (.int .u8 0)], .agg [.lit (.int .u8 0), .lit (.int .u8 0)], .agg [.lit (.int .u8 0), .lit (.int .u8 0)], .agg [.lit (.int .u8 0), .lit (.int .u8 0)], .agg [.lit (.int .u8 0), .lit (.int .u8 0)], .agg [.lit (.int .u8 0), .lit (.int .u8 0)], .agg [.lit (.int .u8 0), .lit (.int .u8 0)], .agg [.lit (.int .u8 0), .lit (.int .u8 0)]]
/-- One of Go's own tables, pinned by name: the form's constant. -/
def laid_unicode_utf8_first : DataW Unit := Go.Pinned.utf8First

/-- 'breadboardlaw01.NumParses': WHATEVER THE INPUT: true; the input reads as it did. -/
def numParsesSpec : ChangeSpec := { name := "numParses", fn := fun _ => fun
  | [d] => { results := [.lit (.bool true)], args := [d] }
  | _ => none }
def numParsesRow : OpenClaim := { program := "ytilfbnfejnjaeaadoor", sum := "bf124b829d5ca3b107e0625339d3ef2ba888635bb73323ba2974b46ef01d576a", func := "breadboard/breadboardlaw01.NumParses", spec := "numParses", inPlace := ["internal/bytealg.IndexByteString"], unfollowed := true, recurses := true, named := ["internal/strconv.uint64pow10", "math/bits.deBruijn32tab", "math/bits.deBruijn64tab"], apart := false, laid := [("math/bits.deBruijn32tab", laid_math_bits_deBruijn32tab), ("math/bits.deBruijn64tab", laid_math_bits_deBruijn64tab), ("internal/strconv.uint64pow10", laid_internal_strconv_uint64pow10)] }
def NumParsesSaid : Prop := numParsesRow.holds Tryd.pinned (OpenSpec.ofChange numParsesSpec)

/-- ITS FALSE NEIGHBOUR: 'it returns false'. Refute it at one input. -/
def numParsesWrong : ChangeSpec := { name := "numParses", fn := fun _ => fun
  | [d] => { results := [.lit (.bool false)], args := [d] }
  | _ => none }
def NumParsesWrongFalsely : Prop := numParsesRow.holds Tryd.pinned (OpenSpec.ofChange numParsesWrong)

/-- 'breadboardlaw01.NumTexts': WHATEVER THE INPUT: true; the input reads as it did. -/
def numTextsSpec : ChangeSpec := { name := "numTexts", fn := fun _ => fun
  | [d] => { results := [.lit (.bool true)], args := [d] }
  | _ => none }
def numTextsRow : OpenClaim := { program := "ytilfbnfejnjaeaadoor", sum := "bf124b829d5ca3b107e0625339d3ef2ba888635bb73323ba2974b46ef01d576a", func := "breadboard/breadboardlaw01.NumTexts", spec := "numTexts", inPlace := ["internal/bytealg.IndexByteString"], unfollowed := true, recurses := true, named := ["internal/strconv.uint64pow10", "math/bits.deBruijn32tab", "math/bits.deBruijn64tab"], apart := false, laid := [("math/bits.deBruijn32tab", laid_math_bits_deBruijn32tab), ("math/bits.deBruijn64tab", laid_math_bits_deBruijn64tab), ("internal/strconv.uint64pow10", laid_internal_strconv_uint64pow10)] }
def NumTextsSaid : Prop := numTextsRow.holds Tryd.pinned (OpenSpec.ofChange numTextsSpec)

/-- ITS FALSE NEIGHBOUR: 'it returns false'. Refute it at one input. -/
def numTextsWrong : ChangeSpec := { name := "numTexts", fn := fun _ => fun
  | [d] => { results := [.lit (.bool false)], args := [d] }
  | _ => none }
def NumTextsWrongFalsely : Prop := numTextsRow.holds Tryd.pinned (OpenSpec.ofChange numTextsWrong)

/-- 'breadboardlaw01.NumUppers': WHATEVER THE INPUT: true; the input reads as it did. -/
def numUppersSpec : ChangeSpec := { name := "numUppers", fn := fun _ => fun
  | [d] => { results := [.lit (.bool true)], args := [d] }
  | _ => none }
def numUppersRow : OpenClaim := { program := "ytilfbnfejnjaeaadoor", sum := "bf124b829d5ca3b107e0625339d3ef2ba888635bb73323ba2974b46ef01d576a", func := "breadboard/breadboardlaw01.NumUppers", spec := "numUppers", inPlace := ["internal/bytealg.IndexByteString"], unfollowed := true, recurses := true, named := ["internal/strconv.uint64pow10", "math/bits.deBruijn32tab", "math/bits.deBruijn64tab"], apart := false, laid := [("math/bits.deBruijn32tab", laid_math_bits_deBruijn32tab), ("math/bits.deBruijn64tab", laid_math_bits_deBruijn64tab), ("internal/strconv.uint64pow10", laid_internal_strconv_uint64pow10)] }
def NumUppersSaid : Prop := numUppersRow.holds Tryd.pinned (OpenSpec.ofChange numUppersSpec)

/-- ITS FALSE NEIGHBOUR: 'it returns false'. Refute it at one input. -/
def numUppersWrong : ChangeSpec := { name := "numUppers", fn := fun _ => fun
  | [d] => { results := [.lit (.bool false)], args := [d] }
  | _ => none }
def NumUppersWrongFalsely : Prop := numUppersRow.holds Tryd.pinned (OpenSpec.ofChange numUppersWrong)

/-- 'breadboardlaw01.NumLow': WHATEVER THE INPUT: true; the input reads as it did. -/
def numLowSpec : ChangeSpec := { name := "numLow", fn := fun _ => fun
  | [d1, d2, d3] => { results := [.lit (.bool true)], args := [d1, d2, d3] }
  | _ => none }
def numLowRow : OpenClaim := { program := "ytilfbnfejnjaeaadoor", sum := "bf124b829d5ca3b107e0625339d3ef2ba888635bb73323ba2974b46ef01d576a", func := "breadboard/breadboardlaw01.NumLow", spec := "numLow", inPlace := ["internal/bytealg.IndexByteString"], unfollowed := true, recurses := true, named := ["internal/strconv.uint64pow10", "math/bits.deBruijn32tab", "math/bits.deBruijn64tab"], apart := false, laid := [("math/bits.deBruijn32tab", laid_math_bits_deBruijn32tab), ("math/bits.deBruijn64tab", laid_math_bits_deBruijn64tab), ("internal/strconv.uint64pow10", laid_internal_strconv_uint64pow10)] }
def NumLowSaid : Prop := numLowRow.holds Tryd.pinned (OpenSpec.ofChange numLowSpec)

/-- ITS FALSE NEIGHBOUR: 'it returns false'. Refute it at one input. -/
def numLowWrong : ChangeSpec := { name := "numLow", fn := fun _ => fun
  | [d1, d2, d3] => { results := [.lit (.bool false)], args := [d1, d2, d3] }
  | _ => none }
def NumLowWrongFalsely : Prop := numLowRow.holds Tryd.pinned (OpenSpec.ofChange numLowWrong)

/-- 'breadboardlaw01.NumHexes': WHATEVER THE INPUT: true; the input reads as it did. -/
def numHexesSpec : ChangeSpec := { name := "numHexes", fn := fun _ => fun
  | [d1, d2] => { results := [.lit (.bool true)], args := [d1, d2] }
  | _ => none }
def numHexesRow : OpenClaim := { program := "ytilfbnfejnjaeaadoor", sum := "bf124b829d5ca3b107e0625339d3ef2ba888635bb73323ba2974b46ef01d576a", func := "breadboard/breadboardlaw01.NumHexes", spec := "numHexes", inPlace := ["internal/bytealg.IndexByteString"], unfollowed := true, recurses := true, named := ["internal/strconv.uint64pow10", "math/bits.deBruijn32tab", "math/bits.deBruijn64tab"], apart := false, laid := [("math/bits.deBruijn32tab", laid_math_bits_deBruijn32tab), ("math/bits.deBruijn64tab", laid_math_bits_deBruijn64tab), ("internal/strconv.uint64pow10", laid_internal_strconv_uint64pow10)] }
def NumHexesSaid : Prop := numHexesRow.holds Tryd.pinned (OpenSpec.ofChange numHexesSpec)

/-- ITS FALSE NEIGHBOUR: 'it returns false'. Refute it at one input. -/
def numHexesWrong : ChangeSpec := { name := "numHexes", fn := fun _ => fun
  | [d1, d2] => { results := [.lit (.bool false)], args := [d1, d2] }
  | _ => none }
def NumHexesWrongFalsely : Prop := numHexesRow.holds Tryd.pinned (OpenSpec.ofChange numHexesWrong)

/-- 'breadboardlaw01.NumBytes': WHATEVER THE INPUT: true; the input reads as it did. -/
def numBytesSpec : ChangeSpec := { name := "numBytes", fn := fun _ => fun
  | [d] => { results := [.lit (.bool true)], args := [d] }
  | _ => none }
def numBytesRow : OpenClaim := { program := "ytilfbnfejnjaeaadoor", sum := "bf124b829d5ca3b107e0625339d3ef2ba888635bb73323ba2974b46ef01d576a", func := "breadboard/breadboardlaw01.NumBytes", spec := "numBytes", inPlace := ["internal/bytealg.IndexByteString"], unfollowed := true, recurses := true, named := ["internal/strconv.uint64pow10", "math/bits.deBruijn32tab", "math/bits.deBruijn64tab"], apart := false, laid := [("math/bits.deBruijn32tab", laid_math_bits_deBruijn32tab), ("math/bits.deBruijn64tab", laid_math_bits_deBruijn64tab), ("internal/strconv.uint64pow10", laid_internal_strconv_uint64pow10)] }
def NumBytesSaid : Prop := numBytesRow.holds Tryd.pinned (OpenSpec.ofChange numBytesSpec)

/-- ITS FALSE NEIGHBOUR: 'it returns false'. Refute it at one input. -/
def numBytesWrong : ChangeSpec := { name := "numBytes", fn := fun _ => fun
  | [d] => { results := [.lit (.bool false)], args := [d] }
  | _ => none }
def NumBytesWrongFalsely : Prop := numBytesRow.holds Tryd.pinned (OpenSpec.ofChange numBytesWrong)

/-- 'breadboardlaw16.LexQuotes': WHATEVER THE INPUT: true; the input reads as it did. -/
def lexQuotesSpec : ChangeSpec := { name := "lexQuotes", fn := fun _ => fun
  | [d1, d2] => { results := [.lit (.bool true)], args := [d1, d2] }
  | _ => none }
def lexQuotesRow : OpenClaim := { program := "ytilfbnfejnjaeaadoor", sum := "bf124b829d5ca3b107e0625339d3ef2ba888635bb73323ba2974b46ef01d576a", func := "breadboard/breadboardlaw16.LexQuotes", spec := "lexQuotes", inPlace := ["internal/bytealg.IndexByteString", "internal/abi.NoEscape", "internal/bytealg.CountString", "internal/bytealg.IndexString", "internal/bytealg.MakeNoZero"], unfollowed := true, recurses := true, named := ["internal/bytealg.MaxLen", "unicode/utf8.first", "unicode/utf8.acceptRanges"], apart := false, laid := [("unicode/utf8.acceptRanges", laid_unicode_utf8_acceptRanges), ("unicode/utf8.first", laid_unicode_utf8_first)] }
def LexQuotesSaid : Prop := lexQuotesRow.holds Tryd.pinned (OpenSpec.ofChange lexQuotesSpec)

/-- ITS FALSE NEIGHBOUR: 'it returns false'. Refute it at one input. -/
def lexQuotesWrong : ChangeSpec := { name := "lexQuotes", fn := fun _ => fun
  | [d1, d2] => { results := [.lit (.bool false)], args := [d1, d2] }
  | _ => none }
def LexQuotesWrongFalsely : Prop := lexQuotesRow.holds Tryd.pinned (OpenSpec.ofChange lexQuotesWrong)

/-- 'breadboardlaw16.LexPrints': WHATEVER THE INPUT: true; the input reads as it did. -/
def lexPrintsSpec : ChangeSpec := { name := "lexPrints", fn := fun _ => fun
  | [d] => { results := [.lit (.bool true)], args := [d] }
  | _ => none }
def lexPrintsRow : OpenClaim := { program := "ytilfbnfejnjaeaadoor", sum := "bf124b829d5ca3b107e0625339d3ef2ba888635bb73323ba2974b46ef01d576a", func := "breadboard/breadboardlaw16.LexPrints", spec := "lexPrints", inPlace := ["internal/bytealg.IndexByteString", "internal/abi.NoEscape", "internal/bytealg.CountString", "internal/bytealg.IndexString", "internal/bytealg.MakeNoZero"], unfollowed := true, recurses := true, named := ["internal/strconv.uint64pow10", "math/bits.deBruijn32tab", "math/bits.deBruijn64tab", "internal/bytealg.MaxLen", "unicode/utf8.first", "unicode/utf8.acceptRanges"], apart := false, laid := [("math/bits.deBruijn32tab", laid_math_bits_deBruijn32tab), ("math/bits.deBruijn64tab", laid_math_bits_deBruijn64tab), ("internal/strconv.uint64pow10", laid_internal_strconv_uint64pow10), ("unicode/utf8.acceptRanges", laid_unicode_utf8_acceptRanges), ("unicode/utf8.first", laid_unicode_utf8_first)] }
def LexPrintsSaid : Prop := lexPrintsRow.holds Tryd.pinned (OpenSpec.ofChange lexPrintsSpec)

/-- ITS FALSE NEIGHBOUR: 'it returns false'. Refute it at one input. -/
def lexPrintsWrong : ChangeSpec := { name := "lexPrints", fn := fun _ => fun
  | [d] => { results := [.lit (.bool false)], args := [d] }
  | _ => none }
def LexPrintsWrongFalsely : Prop := lexPrintsRow.holds Tryd.pinned (OpenSpec.ofChange lexPrintsWrong)

/- THE SECOND FORM. 'bulk': how many values and letters a reading holds, each counted each time it is reached (what is shared counts as often as it is met; a slice's spare places count too). A statement '..UptoSaid' is the law's where the arguments, and the package variables that the reading takes, are together of bulk at most 1048576: NARROWER than '..Said'. Prove '..Said' where nothing that the law and all that it calls make is longer than what came in: it says more and counts as full. Else prove '..UptoSaid'. A law counts once. -/
mutual
def uptoBulk {H : Type} : DataW H → Nat
  | .lit (.string bytes) => bytes.length + 1
  | .lit _ => 1
  | .nil => 1
  | .ptr d => uptoBulk d + 1
  | .slice elems spare => uptoBulkAll elems + uptoBulkAll spare + 1
  | .agg parts => uptoBulkAll parts + 1
  | .iface _ d => uptoBulk d + 1
  | .map entries => uptoBulkEntries entries + 1
  | .held _ => 1
def uptoBulkAll {H : Type} : List (DataW H) → Nat
  | [] => 0
  | d :: r => uptoBulk d + uptoBulkAll r
def uptoBulkEntries {H : Type} : List (Lit × DataW H) → Nat
  | [] => 0
  | x :: r => uptoBulkEntry x + uptoBulkEntries r
def uptoBulkEntry {H : Type} : Lit × DataW H → Nat
  | (.string bytes, d) => bytes.length + uptoBulk d + 1
  | (_, d) => uptoBulk d + 1
 end
def uptoSmall : (H : Type) → List (DataW H) → Bool := fun _ ds => decide (uptoBulkAll ds ≤ 1048576)
def OpenSpec.upto (s : _root_.Go.ChangeSpec) : _root_.Go.OpenSpec := { _root_.Go.OpenSpec.ofChange s with cond := some uptoSmall }

/-- 'breadboardlaw01.NumParses', WHERE WHAT IT READS IS OF BULK AT MOST 1048576: true; the input reads as it did. -/
def numParsesUptoRow : OpenClaim := { program := "ytilfbnfejnjaeaadoor", sum := "bf124b829d5ca3b107e0625339d3ef2ba888635bb73323ba2974b46ef01d576a", func := "breadboard/breadboardlaw01.NumParses", spec := "numParses", inPlace := ["internal/bytealg.IndexByteString"], unfollowed := true, recurses := true, named := ["internal/strconv.uint64pow10", "math/bits.deBruijn32tab", "math/bits.deBruijn64tab"], apart := false, laid := [("math/bits.deBruijn32tab", laid_math_bits_deBruijn32tab), ("math/bits.deBruijn64tab", laid_math_bits_deBruijn64tab), ("internal/strconv.uint64pow10", laid_internal_strconv_uint64pow10)], narrowed := true }
def NumParsesUptoSaid : Prop := numParsesUptoRow.holds Tryd.pinned (OpenSpec.upto numParsesSpec)

/-- 'breadboardlaw01.NumTexts', WHERE WHAT IT READS IS OF BULK AT MOST 1048576: true; the input reads as it did. -/
def numTextsUptoRow : OpenClaim := { program := "ytilfbnfejnjaeaadoor", sum := "bf124b829d5ca3b107e0625339d3ef2ba888635bb73323ba2974b46ef01d576a", func := "breadboard/breadboardlaw01.NumTexts", spec := "numTexts", inPlace := ["internal/bytealg.IndexByteString"], unfollowed := true, recurses := true, named := ["internal/strconv.uint64pow10", "math/bits.deBruijn32tab", "math/bits.deBruijn64tab"], apart := false, laid := [("math/bits.deBruijn32tab", laid_math_bits_deBruijn32tab), ("math/bits.deBruijn64tab", laid_math_bits_deBruijn64tab), ("internal/strconv.uint64pow10", laid_internal_strconv_uint64pow10)], narrowed := true }
def NumTextsUptoSaid : Prop := numTextsUptoRow.holds Tryd.pinned (OpenSpec.upto numTextsSpec)

/-- 'breadboardlaw01.NumUppers', WHERE WHAT IT READS IS OF BULK AT MOST 1048576: true; the input reads as it did. -/
def numUppersUptoRow : OpenClaim := { program := "ytilfbnfejnjaeaadoor", sum := "bf124b829d5ca3b107e0625339d3ef2ba888635bb73323ba2974b46ef01d576a", func := "breadboard/breadboardlaw01.NumUppers", spec := "numUppers", inPlace := ["internal/bytealg.IndexByteString"], unfollowed := true, recurses := true, named := ["internal/strconv.uint64pow10", "math/bits.deBruijn32tab", "math/bits.deBruijn64tab"], apart := false, laid := [("math/bits.deBruijn32tab", laid_math_bits_deBruijn32tab), ("math/bits.deBruijn64tab", laid_math_bits_deBruijn64tab), ("internal/strconv.uint64pow10", laid_internal_strconv_uint64pow10)], narrowed := true }
def NumUppersUptoSaid : Prop := numUppersUptoRow.holds Tryd.pinned (OpenSpec.upto numUppersSpec)

/-- 'breadboardlaw01.NumLow', WHERE WHAT IT READS IS OF BULK AT MOST 1048576: true; the input reads as it did. -/
def numLowUptoRow : OpenClaim := { program := "ytilfbnfejnjaeaadoor", sum := "bf124b829d5ca3b107e0625339d3ef2ba888635bb73323ba2974b46ef01d576a", func := "breadboard/breadboardlaw01.NumLow", spec := "numLow", inPlace := ["internal/bytealg.IndexByteString"], unfollowed := true, recurses := true, named := ["internal/strconv.uint64pow10", "math/bits.deBruijn32tab", "math/bits.deBruijn64tab"], apart := false, laid := [("math/bits.deBruijn32tab", laid_math_bits_deBruijn32tab), ("math/bits.deBruijn64tab", laid_math_bits_deBruijn64tab), ("internal/strconv.uint64pow10", laid_internal_strconv_uint64pow10)], narrowed := true }
def NumLowUptoSaid : Prop := numLowUptoRow.holds Tryd.pinned (OpenSpec.upto numLowSpec)

/-- 'breadboardlaw01.NumHexes', WHERE WHAT IT READS IS OF BULK AT MOST 1048576: true; the input reads as it did. -/
def numHexesUptoRow : OpenClaim := { program := "ytilfbnfejnjaeaadoor", sum := "bf124b829d5ca3b107e0625339d3ef2ba888635bb73323ba2974b46ef01d576a", func := "breadboard/breadboardlaw01.NumHexes", spec := "numHexes", inPlace := ["internal/bytealg.IndexByteString"], unfollowed := true, recurses := true, named := ["internal/strconv.uint64pow10", "math/bits.deBruijn32tab", "math/bits.deBruijn64tab"], apart := false, laid := [("math/bits.deBruijn32tab", laid_math_bits_deBruijn32tab), ("math/bits.deBruijn64tab", laid_math_bits_deBruijn64tab), ("internal/strconv.uint64pow10", laid_internal_strconv_uint64pow10)], narrowed := true }
def NumHexesUptoSaid : Prop := numHexesUptoRow.holds Tryd.pinned (OpenSpec.upto numHexesSpec)

/-- 'breadboardlaw01.NumBytes', WHERE WHAT IT READS IS OF BULK AT MOST 1048576: true; the input reads as it did. -/
def numBytesUptoRow : OpenClaim := { program := "ytilfbnfejnjaeaadoor", sum := "bf124b829d5ca3b107e0625339d3ef2ba888635bb73323ba2974b46ef01d576a", func := "breadboard/breadboardlaw01.NumBytes", spec := "numBytes", inPlace := ["internal/bytealg.IndexByteString"], unfollowed := true, recurses := true, named := ["internal/strconv.uint64pow10", "math/bits.deBruijn32tab", "math/bits.deBruijn64tab"], apart := false, laid := [("math/bits.deBruijn32tab", laid_math_bits_deBruijn32tab), ("math/bits.deBruijn64tab", laid_math_bits_deBruijn64tab), ("internal/strconv.uint64pow10", laid_internal_strconv_uint64pow10)], narrowed := true }
def NumBytesUptoSaid : Prop := numBytesUptoRow.holds Tryd.pinned (OpenSpec.upto numBytesSpec)

/-- 'breadboardlaw16.LexQuotes', WHERE WHAT IT READS IS OF BULK AT MOST 1048576: true; the input reads as it did. -/
def lexQuotesUptoRow : OpenClaim := { program := "ytilfbnfejnjaeaadoor", sum := "bf124b829d5ca3b107e0625339d3ef2ba888635bb73323ba2974b46ef01d576a", func := "breadboard/breadboardlaw16.LexQuotes", spec := "lexQuotes", inPlace := ["internal/bytealg.IndexByteString", "internal/abi.NoEscape", "internal/bytealg.CountString", "internal/bytealg.IndexString", "internal/bytealg.MakeNoZero"], unfollowed := true, recurses := true, named := ["internal/bytealg.MaxLen", "unicode/utf8.first", "unicode/utf8.acceptRanges"], apart := false, laid := [("unicode/utf8.acceptRanges", laid_unicode_utf8_acceptRanges), ("unicode/utf8.first", laid_unicode_utf8_first)], narrowed := true }
def LexQuotesUptoSaid : Prop := lexQuotesUptoRow.holds Tryd.pinned (OpenSpec.upto lexQuotesSpec)

/-- 'breadboardlaw16.LexPrints', WHERE WHAT IT READS IS OF BULK AT MOST 1048576: true; the input reads as it did. -/
def lexPrintsUptoRow : OpenClaim := { program := "ytilfbnfejnjaeaadoor", sum := "bf124b829d5ca3b107e0625339d3ef2ba888635bb73323ba2974b46ef01d576a", func := "breadboard/breadboardlaw16.LexPrints", spec := "lexPrints", inPlace := ["internal/bytealg.IndexByteString", "internal/abi.NoEscape", "internal/bytealg.CountString", "internal/bytealg.IndexString", "internal/bytealg.MakeNoZero"], unfollowed := true, recurses := true, named := ["internal/strconv.uint64pow10", "math/bits.deBruijn32tab", "math/bits.deBruijn64tab", "internal/bytealg.MaxLen", "unicode/utf8.first", "unicode/utf8.acceptRanges"], apart := false, laid := [("math/bits.deBruijn32tab", laid_math_bits_deBruijn32tab), ("math/bits.deBruijn64tab", laid_math_bits_deBruijn64tab), ("internal/strconv.uint64pow10", laid_internal_strconv_uint64pow10), ("unicode/utf8.acceptRanges", laid_unicode_utf8_acceptRanges), ("unicode/utf8.first", laid_unicode_utf8_first)], narrowed := true }
def LexPrintsUptoSaid : Prop := lexPrintsUptoRow.holds Tryd.pinned (OpenSpec.upto lexPrintsSpec)

end Rows
end Go.Proofs.YtilfbnfejnjaeaaDoor
