/- The walks of the library's functions at base 16: isPowerOfTwo, TrailingZeros. -/
import Derived.Test.YtilfbnfejnjaeaaDoorUpper
namespace Go.Proofs.YtilfbnfejnjaeaaDoor
open Go.RowKit

/-- The one cell of math/bits.deBruijn64tab that these walks read. -/
def T16 (w : World) : Prop := w.cell? ⟨5, 15, none⟩ = some (.int .u8 4)
theorem T16.after {w w' : World} {n : Nat} (h : T16 w) (hb : Below n w w') (hn : w.heap.size ≤ n) : T16 w' := (hb.cell (p := ⟨5, 15, none⟩) (Nat.lt_of_lt_of_le (lt_of_cell h) hn)).trans h
theorem pow_any (w : World) : Calls Tryd.prog 94 #[.int .i64 16] w fun e w' => e = .returned (.bool true) ∧ w = w' := by
  go_enter Tryd.func94, Tryd.ntmps94
  go_wp2
  go_ret
  exact ⟨rfl, rfl⟩
theorem tz64_any (w : World) (h : T16 w) : Calls Tryd.prog 104 #[.int .u64 16] w fun e w' => e = .returned (.int .i64 4) ∧ w = w' := by
  unfold T16 at h
  have h1 : IntKind.u64.wrap (-16) = 18446744073709551600 := by decide +kernel
  have h2 : bits .and .u64 16 18446744073709551600 = 16 := by decide +kernel
  have h3 : IntKind.u64.wrap 4573923408821661840 = 4573923408821661840 := by decide +kernel
  have h4 : (4573923408821661840 : Int) / 288230376151711744 = 15 := by decide +kernel
  go_enter Tryd.func104, Tryd.ntmps104
  go_wp2
  go_ret
  exact ⟨rfl, rfl⟩
theorem tz_any (w : World) (h : T16 w) : Calls Tryd.prog 95 #[.int .u64 16] w fun e w' => e = .returned (.int .i64 4) ∧ w = w' := by
  have C := Lib.hid (tz64_any w h)
  clear h
  go_enter Tryd.func95, Tryd.ntmps95
  go_wp2_with (go_at_call 104; refine C.out.mono ?_; rintro e w' ⟨rfl, rfl⟩)
  go_ret
  exact ⟨rfl, rfl⟩
end Go.Proofs.YtilfbnfejnjaeaaDoor
