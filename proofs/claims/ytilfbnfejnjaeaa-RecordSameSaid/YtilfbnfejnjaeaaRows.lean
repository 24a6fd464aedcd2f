/-
  No cell of these rows narrows 'for every input' (looked for: loops, veiled, ifaces, maps, wideKeys, modest, calm, conditions, laid).
  DERIVED. THE GIVEN ROWS OF THIS SEAT. 10 by the template 'for every input the law returns true; each argument reads behind the call as it read before'; 0 by the template 'total and deterministic' (their statements: YtilfbnfejnjaeaaTotals.lean).
  GIVEN WITH THE SEED: the statements are not yours to turn. If you find one false, say at which input.
  Laid BY PROGRAM, IN A SANDBOX (cutbox-rows.mjs): the forced cells as the released guide's own fill.sh prints them over the translation ff6600010512df6f… (all of the seat's roots in one cut). By AI agents, Wed Nov 11 2026. No macro, syntax, notation, axiom, sorry.
-/
import Derived.Test.YtilfbnfejnjaeaaChecked
import GoSem.Claim
import GoSem.ClaimJoined
import GoSem.ClaimMapViews
import Derived.JoinedTies
import Derived.KernelRfl
namespace Go.Proofs.Ytilfbnfejnjaeaa
/- THE CELL 'sum', in the pinned program and in every row, IS THE sha256 OF THE DUMP (.gsa) THAT YtilfbnfejnjaeaaProg.lean LOADS. Nothing in Lean hashes anything: it is a label: what it is worth is what the hold of that sum in a sandbox is worth. -/
noncomputable def Try.pinned : Pinned := { name := "ytilfbnfejnjaeaa", sum := "ff6600010512df6f5bdbaa9c61e2c95dec8e4db6edf52e0abad9e6cf48e5ec1c", checked := Try.checked }
namespace Rows
def none {H : Type} : Left H := { results := [], args := [] }

/-- 'breadboardlaw03.RecordParses': WHATEVER THE INPUT: true; the input reads as it did. -/
def recordParsesSpec : ChangeSpec := { name := "recordParses", fn := fun _ => fun
  | [d] => { results := [.lit (.bool true)], args := [d] }
  | _ => none }
def recordParsesRow : OpenClaim := { program := "ytilfbnfejnjaeaa", sum := "ff6600010512df6f5bdbaa9c61e2c95dec8e4db6edf52e0abad9e6cf48e5ec1c", func := "breadboard/breadboardlaw03.RecordParses", spec := "recordParses", inPlace := ["internal/abi.NoEscape", "internal/bytealg.IndexByteString"], unfollowed := true, recurses := true, apart := false }
def RecordParsesSaid : Prop := recordParsesRow.holds Try.pinned (OpenSpec.ofChange recordParsesSpec)

/-- ITS FALSE NEIGHBOUR: 'it returns false'. Refute it at one input. -/
def recordParsesWrong : ChangeSpec := { name := "recordParses", fn := fun _ => fun
  | [d] => { results := [.lit (.bool false)], args := [d] }
  | _ => none }
def RecordParsesWrongFalsely : Prop := recordParsesRow.holds Try.pinned (OpenSpec.ofChange recordParsesWrong)

/-- 'breadboardlaw03.RecordSums': WHATEVER THE INPUT: true; the input reads as it did. -/
def recordSumsSpec : ChangeSpec := { name := "recordSums", fn := fun _ => fun
  | [d] => { results := [.lit (.bool true)], args := [d] }
  | _ => none }
def recordSumsRow : OpenClaim := { program := "ytilfbnfejnjaeaa", sum := "ff6600010512df6f5bdbaa9c61e2c95dec8e4db6edf52e0abad9e6cf48e5ec1c", func := "breadboard/breadboardlaw03.RecordSums", spec := "recordSums", inPlace := ["internal/abi.NoEscape", "internal/bytealg.IndexByteString"], unfollowed := true, recurses := true, apart := false }
def RecordSumsSaid : Prop := recordSumsRow.holds Try.pinned (OpenSpec.ofChange recordSumsSpec)

/-- ITS FALSE NEIGHBOUR: 'it returns false'. Refute it at one input. -/
def recordSumsWrong : ChangeSpec := { name := "recordSums", fn := fun _ => fun
  | [d] => { results := [.lit (.bool false)], args := [d] }
  | _ => none }
def RecordSumsWrongFalsely : Prop := recordSumsRow.holds Try.pinned (OpenSpec.ofChange recordSumsWrong)

/-- 'breadboardlaw03.RecordPrints': WHATEVER THE INPUT: true; the input reads as it did. -/
def recordPrintsSpec : ChangeSpec := { name := "recordPrints", fn := fun _ => fun
  | [d] => { results := [.lit (.bool true)], args := [d] }
  | _ => none }
def recordPrintsRow : OpenClaim := { program := "ytilfbnfejnjaeaa", sum := "ff6600010512df6f5bdbaa9c61e2c95dec8e4db6edf52e0abad9e6cf48e5ec1c", func := "breadboard/breadboardlaw03.RecordPrints", spec := "recordPrints", inPlace := ["internal/abi.NoEscape", "internal/bytealg.IndexByteString"], unfollowed := true, recurses := true, apart := false }
def RecordPrintsSaid : Prop := recordPrintsRow.holds Try.pinned (OpenSpec.ofChange recordPrintsSpec)

/-- ITS FALSE NEIGHBOUR: 'it returns false'. Refute it at one input. -/
def recordPrintsWrong : ChangeSpec := { name := "recordPrints", fn := fun _ => fun
  | [d] => { results := [.lit (.bool false)], args := [d] }
  | _ => none }
def RecordPrintsWrongFalsely : Prop := recordPrintsRow.holds Try.pinned (OpenSpec.ofChange recordPrintsWrong)

/-- 'breadboardlaw03.RecordDigits': WHATEVER THE INPUT: true; the input reads as it did. -/
def recordDigitsSpec : ChangeSpec := { name := "recordDigits", fn := fun _ => fun
  | [d1, d2, d3] => { results := [.lit (.bool true)], args := [d1, d2, d3] }
  | _ => none }
def recordDigitsRow : OpenClaim := { program := "ytilfbnfejnjaeaa", sum := "ff6600010512df6f5bdbaa9c61e2c95dec8e4db6edf52e0abad9e6cf48e5ec1c", func := "breadboard/breadboardlaw03.RecordDigits", spec := "recordDigits", inPlace := ["internal/abi.NoEscape", "internal/bytealg.IndexByteString"], unfollowed := true, recurses := true, apart := false }
def RecordDigitsSaid : Prop := recordDigitsRow.holds Try.pinned (OpenSpec.ofChange recordDigitsSpec)

/-- ITS FALSE NEIGHBOUR: 'it returns false'. Refute it at one input. -/
def recordDigitsWrong : ChangeSpec := { name := "recordDigits", fn := fun _ => fun
  | [d1, d2, d3] => { results := [.lit (.bool false)], args := [d1, d2, d3] }
  | _ => none }
def RecordDigitsWrongFalsely : Prop := recordDigitsRow.holds Try.pinned (OpenSpec.ofChange recordDigitsWrong)

/-- 'breadboardlaw03.RecordSplits': WHATEVER THE INPUT: true; the input reads as it did. -/
def recordSplitsSpec : ChangeSpec := { name := "recordSplits", fn := fun _ => fun
  | [d1, d2, d3] => { results := [.lit (.bool true)], args := [d1, d2, d3] }
  | _ => none }
def recordSplitsRow : OpenClaim := { program := "ytilfbnfejnjaeaa", sum := "ff6600010512df6f5bdbaa9c61e2c95dec8e4db6edf52e0abad9e6cf48e5ec1c", func := "breadboard/breadboardlaw03.RecordSplits", spec := "recordSplits", inPlace := ["internal/abi.NoEscape", "internal/bytealg.IndexByteString"], unfollowed := true, recurses := true, apart := false }
def RecordSplitsSaid : Prop := recordSplitsRow.holds Try.pinned (OpenSpec.ofChange recordSplitsSpec)

/-- ITS FALSE NEIGHBOUR: 'it returns false'. Refute it at one input. -/
def recordSplitsWrong : ChangeSpec := { name := "recordSplits", fn := fun _ => fun
  | [d1, d2, d3] => { results := [.lit (.bool false)], args := [d1, d2, d3] }
  | _ => none }
def RecordSplitsWrongFalsely : Prop := recordSplitsRow.holds Try.pinned (OpenSpec.ofChange recordSplitsWrong)

/-- 'breadboardlaw03.RecordSame': WHATEVER THE INPUT: true; the input reads as it did. -/
def recordSameSpec : ChangeSpec := { name := "recordSame", fn := fun _ => fun
  | [d1, d2] => { results := [.lit (.bool true)], args := [d1, d2] }
  | _ => none }
def recordSameRow : OpenClaim := { program := "ytilfbnfejnjaeaa", sum := "ff6600010512df6f5bdbaa9c61e2c95dec8e4db6edf52e0abad9e6cf48e5ec1c", func := "breadboard/breadboardlaw03.RecordSame", spec := "recordSame", inPlace := ["internal/abi.NoEscape", "internal/bytealg.IndexByteString"], unfollowed := true, recurses := true, apart := false }
def RecordSameSaid : Prop := recordSameRow.holds Try.pinned (OpenSpec.ofChange recordSameSpec)

/-- ITS FALSE NEIGHBOUR: 'it returns false'. Refute it at one input. -/
def recordSameWrong : ChangeSpec := { name := "recordSame", fn := fun _ => fun
  | [d1, d2] => { results := [.lit (.bool false)], args := [d1, d2] }
  | _ => none }
def RecordSameWrongFalsely : Prop := recordSameRow.holds Try.pinned (OpenSpec.ofChange recordSameWrong)

/-- 'breadboardlaw16.LexWords': WHATEVER THE INPUT: true; the input reads as it did. -/
def lexWordsSpec : ChangeSpec := { name := "lexWords", fn := fun _ => fun
  | [d] => { results := [.lit (.bool true)], args := [d] }
  | _ => none }
def lexWordsRow : OpenClaim := { program := "ytilfbnfejnjaeaa", sum := "ff6600010512df6f5bdbaa9c61e2c95dec8e4db6edf52e0abad9e6cf48e5ec1c", func := "breadboard/breadboardlaw16.LexWords", spec := "lexWords", inPlace := ["internal/bytealg.IndexByteString", "internal/abi.NoEscape"], unfollowed := true, recurses := true, apart := false }
def LexWordsSaid : Prop := lexWordsRow.holds Try.pinned (OpenSpec.ofChange lexWordsSpec)

/-- ITS FALSE NEIGHBOUR: 'it returns false'. Refute it at one input. -/
def lexWordsWrong : ChangeSpec := { name := "lexWords", fn := fun _ => fun
  | [d] => { results := [.lit (.bool false)], args := [d] }
  | _ => none }
def LexWordsWrongFalsely : Prop := lexWordsRow.holds Try.pinned (OpenSpec.ofChange lexWordsWrong)

/-- 'breadboardlaw16.LexTokens': WHATEVER THE INPUT: true; the input reads as it did. -/
def lexTokensSpec : ChangeSpec := { name := "lexTokens", fn := fun _ => fun
  | [d] => { results := [.lit (.bool true)], args := [d] }
  | _ => none }
def lexTokensRow : OpenClaim := { program := "ytilfbnfejnjaeaa", sum := "ff6600010512df6f5bdbaa9c61e2c95dec8e4db6edf52e0abad9e6cf48e5ec1c", func := "breadboard/breadboardlaw16.LexTokens", spec := "lexTokens", inPlace := ["internal/bytealg.IndexByteString", "internal/abi.NoEscape"], unfollowed := true, recurses := true, apart := false }
def LexTokensSaid : Prop := lexTokensRow.holds Try.pinned (OpenSpec.ofChange lexTokensSpec)

/-- ITS FALSE NEIGHBOUR: 'it returns false'. Refute it at one input. -/
def lexTokensWrong : ChangeSpec := { name := "lexTokens", fn := fun _ => fun
  | [d] => { results := [.lit (.bool false)], args := [d] }
  | _ => none }
def LexTokensWrongFalsely : Prop := lexTokensRow.holds Try.pinned (OpenSpec.ofChange lexTokensWrong)

/-- 'breadboardlaw16.LexSigns': WHATEVER THE INPUT: true; the input reads as it did. -/
def lexSignsSpec : ChangeSpec := { name := "lexSigns", fn := fun _ => fun
  | [d1, d2] => { results := [.lit (.bool true)], args := [d1, d2] }
  | _ => none }
def lexSignsRow : OpenClaim := { program := "ytilfbnfejnjaeaa", sum := "ff6600010512df6f5bdbaa9c61e2c95dec8e4db6edf52e0abad9e6cf48e5ec1c", func := "breadboard/breadboardlaw16.LexSigns", spec := "lexSigns", inPlace := ["internal/bytealg.IndexByteString", "internal/abi.NoEscape"], unfollowed := true, recurses := true, apart := false }
def LexSignsSaid : Prop := lexSignsRow.holds Try.pinned (OpenSpec.ofChange lexSignsSpec)

/-- ITS FALSE NEIGHBOUR: 'it returns false'. Refute it at one input. -/
def lexSignsWrong : ChangeSpec := { name := "lexSigns", fn := fun _ => fun
  | [d1, d2] => { results := [.lit (.bool false)], args := [d1, d2] }
  | _ => none }
def LexSignsWrongFalsely : Prop := lexSignsRow.holds Try.pinned (OpenSpec.ofChange lexSignsWrong)

/-- 'breadboardlaw16.LexBlanks': WHATEVER THE INPUT: true; the input reads as it did. -/
def lexBlanksSpec : ChangeSpec := { name := "lexBlanks", fn := fun _ => fun
  | [d1, d2, d3] => { results := [.lit (.bool true)], args := [d1, d2, d3] }
  | _ => none }
def lexBlanksRow : OpenClaim := { program := "ytilfbnfejnjaeaa", sum := "ff6600010512df6f5bdbaa9c61e2c95dec8e4db6edf52e0abad9e6cf48e5ec1c", func := "breadboard/breadboardlaw16.LexBlanks", spec := "lexBlanks", inPlace := ["internal/bytealg.IndexByteString", "internal/abi.NoEscape", "internal/bytealg.MakeNoZero", "internal/bytealg.IndexString"], unfollowed := true, recurses := true, named := ["internal/bytealg.MaxLen"], apart := false }
def LexBlanksSaid : Prop := lexBlanksRow.holds Try.pinned (OpenSpec.ofChange lexBlanksSpec)

/-- ITS FALSE NEIGHBOUR: 'it returns false'. Refute it at one input. -/
def lexBlanksWrong : ChangeSpec := { name := "lexBlanks", fn := fun _ => fun
  | [d1, d2, d3] => { results := [.lit (.bool false)], args := [d1, d2, d3] }
  | _ => none }
def LexBlanksWrongFalsely : Prop := lexBlanksRow.holds Try.pinned (OpenSpec.ofChange lexBlanksWrong)

/- THE SECOND FORM. 'bulk': how many values and letters a reading holds, each counted each time it is reached (what is shared counts as often as it is met; a slice's spare places count too). A statement '..UptoSaid' is the law's where the arguments, and the package variables that the reading takes, are together of bulk at most 1048576: NARROWER than '..Said'. Prove '..Said' where nothing that the law and all that it calls make is longer than what came in: it says more and counts as full. Else prove '..UptoSaid'. A law counts once. -/
mutual
def uptoBulk {H : Type} : DataW H → Nat
  | .lit (.string bytes) => bytes.length + 1
  | .lit _ => 1
  | .nil => 1
  | .ptr d => uptoBulk d + 1
  | .slice elems spare => uptoBulkAll elems + uptoBulkAll spare + 1
  | .agg parts => uptoBulkAll parts + 1
  | .iface _ d => uptoBulk d + 1
  | .map entries => uptoBulkEntries entries + 1
  | .held _ => 1
def uptoBulkAll {H : Type} : List (DataW H) → Nat
  | [] => 0
  | d :: r => uptoBulk d + uptoBulkAll r
def uptoBulkEntries {H : Type} : List (Lit × DataW H) → Nat
  | [] => 0
  | x :: r => uptoBulkEntry x + uptoBulkEntries r
def uptoBulkEntry {H : Type} : Lit × DataW H → Nat
  | (.string bytes, d) => bytes.length + uptoBulk d + 1
  | (_, d) => uptoBulk d + 1
 end
def uptoSmall : (H : Type) → List (DataW H) → Bool := fun _ ds => decide (uptoBulkAll ds ≤ 1048576)
def OpenSpec.upto (s : _root_.Go.ChangeSpec) : _root_.Go.OpenSpec := { _root_.Go.OpenSpec.ofChange s with cond := some uptoSmall }

/-- 'breadboardlaw03.RecordParses', WHERE WHAT IT READS IS OF BULK AT MOST 1048576: true; the input reads as it did. -/
def recordParsesUptoRow : OpenClaim := { program := "ytilfbnfejnjaeaa", sum := "ff6600010512df6f5bdbaa9c61e2c95dec8e4db6edf52e0abad9e6cf48e5ec1c", func := "breadboard/breadboardlaw03.RecordParses", spec := "recordParses", inPlace := ["internal/abi.NoEscape", "internal/bytealg.IndexByteString"], unfollowed := true, recurses := true, apart := false, narrowed := true }
def RecordParsesUptoSaid : Prop := recordParsesUptoRow.holds Try.pinned (OpenSpec.upto recordParsesSpec)

/-- 'breadboardlaw03.RecordSums', WHERE WHAT IT READS IS OF BULK AT MOST 1048576: true; the input reads as it did. -/
def recordSumsUptoRow : OpenClaim := { program := "ytilfbnfejnjaeaa", sum := "ff6600010512df6f5bdbaa9c61e2c95dec8e4db6edf52e0abad9e6cf48e5ec1c", func := "breadboard/breadboardlaw03.RecordSums", spec := "recordSums", inPlace := ["internal/abi.NoEscape", "internal/bytealg.IndexByteString"], unfollowed := true, recurses := true, apart := false, narrowed := true }
def RecordSumsUptoSaid : Prop := recordSumsUptoRow.holds Try.pinned (OpenSpec.upto recordSumsSpec)

/-- 'breadboardlaw03.RecordPrints', WHERE WHAT IT READS IS OF BULK AT MOST 1048576: true; the input reads as it did. -/
def recordPrintsUptoRow : OpenClaim := { program := "ytilfbnfejnjaeaa", sum := "ff6600010512df6f5bdbaa9c61e2c95dec8e4db6edf52e0abad9e6cf48e5ec1c", func := "breadboard/breadboardlaw03.RecordPrints", spec := "recordPrints", inPlace := ["internal/abi.NoEscape", "internal/bytealg.IndexByteString"], unfollowed := true, recurses := true, apart := false, narrowed := true }
def RecordPrintsUptoSaid : Prop := recordPrintsUptoRow.holds Try.pinned (OpenSpec.upto recordPrintsSpec)

/-- 'breadboardlaw03.RecordDigits', WHERE WHAT IT READS IS OF BULK AT MOST 1048576: true; the input reads as it did. -/
def recordDigitsUptoRow : OpenClaim := { program := "ytilfbnfejnjaeaa", sum := "ff6600010512df6f5bdbaa9c61e2c95dec8e4db6edf52e0abad9e6cf48e5ec1c", func := "breadboard/breadboardlaw03.RecordDigits", spec := "recordDigits", inPlace := ["internal/abi.NoEscape", "internal/bytealg.IndexByteString"], unfollowed := true, recurses := true, apart := false, narrowed := true }
def RecordDigitsUptoSaid : Prop := recordDigitsUptoRow.holds Try.pinned (OpenSpec.upto recordDigitsSpec)

/-- 'breadboardlaw03.RecordSplits', WHERE WHAT IT READS IS OF BULK AT MOST 1048576: true; the input reads as it did. -/
def recordSplitsUptoRow : OpenClaim := { program := "ytilfbnfejnjaeaa", sum := "ff6600010512df6f5bdbaa9c61e2c95dec8e4db6edf52e0abad9e6cf48e5ec1c", func := "breadboard/breadboardlaw03.RecordSplits", spec := "recordSplits", inPlace := ["internal/abi.NoEscape", "internal/bytealg.IndexByteString"], unfollowed := true, recurses := true, apart := false, narrowed := true }
def RecordSplitsUptoSaid : Prop := recordSplitsUptoRow.holds Try.pinned (OpenSpec.upto recordSplitsSpec)

/-- 'breadboardlaw03.RecordSame', WHERE WHAT IT READS IS OF BULK AT MOST 1048576: true; the input reads as it did. -/
def recordSameUptoRow : OpenClaim := { program := "ytilfbnfejnjaeaa", sum := "ff6600010512df6f5bdbaa9c61e2c95dec8e4db6edf52e0abad9e6cf48e5ec1c", func := "breadboard/breadboardlaw03.RecordSame", spec := "recordSame", inPlace := ["internal/abi.NoEscape", "internal/bytealg.IndexByteString"], unfollowed := true, recurses := true, apart := false, narrowed := true }
def RecordSameUptoSaid : Prop := recordSameUptoRow.holds Try.pinned (OpenSpec.upto recordSameSpec)

/-- 'breadboardlaw16.LexWords', WHERE WHAT IT READS IS OF BULK AT MOST 1048576: true; the input reads as it did. -/
def lexWordsUptoRow : OpenClaim := { program := "ytilfbnfejnjaeaa", sum := "ff6600010512df6f5bdbaa9c61e2c95dec8e4db6edf52e0abad9e6cf48e5ec1c", func := "breadboard/breadboardlaw16.LexWords", spec := "lexWords", inPlace := ["internal/bytealg.IndexByteString", "internal/abi.NoEscape"], unfollowed := true, recurses := true, apart := false, narrowed := true }
def LexWordsUptoSaid : Prop := lexWordsUptoRow.holds Try.pinned (OpenSpec.upto lexWordsSpec)

/-- 'breadboardlaw16.LexTokens', WHERE WHAT IT READS IS OF BULK AT MOST 1048576: true; the input reads as it did. -/
def lexTokensUptoRow : OpenClaim := { program := "ytilfbnfejnjaeaa", sum := "ff6600010512df6f5bdbaa9c61e2c95dec8e4db6edf52e0abad9e6cf48e5ec1c", func := "breadboard/breadboardlaw16.LexTokens", spec := "lexTokens", inPlace := ["internal/bytealg.IndexByteString", "internal/abi.NoEscape"], unfollowed := true, recurses := true, apart := false, narrowed := true }
def LexTokensUptoSaid : Prop := lexTokensUptoRow.holds Try.pinned (OpenSpec.upto lexTokensSpec)

/-- 'breadboardlaw16.LexSigns', WHERE WHAT IT READS IS OF BULK AT MOST 1048576: true; the input reads as it did. -/
def lexSignsUptoRow : OpenClaim := { program := "ytilfbnfejnjaeaa", sum := "ff6600010512df6f5bdbaa9c61e2c95dec8e4db6edf52e0abad9e6cf48e5ec1c", func := "breadboard/breadboardlaw16.LexSigns", spec := "lexSigns", inPlace := ["internal/bytealg.IndexByteString", "internal/abi.NoEscape"], unfollowed := true, recurses := true, apart := false, narrowed := true }
def LexSignsUptoSaid : Prop := lexSignsUptoRow.holds Try.pinned (OpenSpec.upto lexSignsSpec)

/-- 'breadboardlaw16.LexBlanks', WHERE WHAT IT READS IS OF BULK AT MOST 1048576: true; the input reads as it did. -/
def lexBlanksUptoRow : OpenClaim := { program := "ytilfbnfejnjaeaa", sum := "ff6600010512df6f5bdbaa9c61e2c95dec8e4db6edf52e0abad9e6cf48e5ec1c", func := "breadboard/breadboardlaw16.LexBlanks", spec := "lexBlanks", inPlace := ["internal/bytealg.IndexByteString", "internal/abi.NoEscape", "internal/bytealg.MakeNoZero", "internal/bytealg.IndexString"], unfollowed := true, recurses := true, named := ["internal/bytealg.MaxLen"], apart := false, narrowed := true }
def LexBlanksUptoSaid : Prop := lexBlanksUptoRow.holds Try.pinned (OpenSpec.upto lexBlanksSpec)

end Rows
end Go.Proofs.Ytilfbnfejnjaeaa
