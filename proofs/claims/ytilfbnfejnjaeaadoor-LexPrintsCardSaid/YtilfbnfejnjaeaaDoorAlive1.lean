/- The walks of Signed, of its reference, and of the examples of the chapter. -/
import Derived.Test.YtilfbnfejnjaeaaDoorText
import Derived.Test.YtilfbnfejnjaeaaDoorPnum
namespace Go.Proofs.YtilfbnfejnjaeaaDoor
open Go.RowKit

/-- The signed number of a byte. -/
def sgn (c : UInt8) : Int := if 128 ≤ (c.toNat : Int) then (c.toNat : Int) - 256 else (c.toNat : Int)
theorem wrap_i8_all : ∀ n : Fin 256, IntKind.i8.wrap (n.val : Int) = if 128 ≤ (n.val : Int) then (n.val : Int) - 256 else (n.val : Int) := by decide +kernel
theorem sgn_wrap (c : UInt8) : IntKind.i8.wrap (c.toNat : Int) = sgn c := wrap_i8_all ⟨c.toNat, c.toNat_lt⟩
theorem signed_any (c : UInt8) (w : World) : Calls Tryd.prog 19 #[.int .u8 (c.toNat : Int)] w fun e w' => e = .returned (.int .i64 (sgn c)) ∧ w = w' := by
  have h := sgn_wrap c
  have h1 : -128 ≤ sgn c ∧ sgn c ≤ 127 := by
    have := byte_le c
    unfold sgn
    split <;> omega
  obtain ⟨h2, h3⟩ := h1
  go_enter Tryd.func19, Tryd.ntmps19
  go_wp2
  go_ret
  exact ⟨rfl, rfl⟩
theorem rsigned_any (c : UInt8) (w : World) : Calls Tryd.prog 20 #[.int .u8 (c.toNat : Int)] w fun e w' => e = .returned (.int .i64 (sgn c)) ∧ w = w' := by
  have hc := byte_le c
  have H1 : Hid (128 ≤ (c.toNat : Int) → sgn c = (c.toNat : Int) - 256) := fun h => by unfold sgn; rw [if_pos h]
  have H2 : Hid (¬ 128 ≤ (c.toNat : Int) → sgn c = (c.toNat : Int)) := fun h => by unfold sgn; rw [if_neg h]
  by_cases h : 128 ≤ (c.toNat : Int)
  · have HS := Lib.hid (H1.out h)
    rw [HS.out]
    go_enter Tryd.func20, Tryd.ntmps20
    go_wp2
    go_ret
    exact ⟨rfl, rfl⟩
  · have HS := Lib.hid (H2.out h)
    rw [HS.out]
    go_enter Tryd.func20, Tryd.ntmps20
    go_wp2
    go_ret
    exact ⟨rfl, rfl⟩
theorem alive_p : pval [49, 48, 49, 48, 98] = some 10 := by decide +kernel
theorem hexU_171 : hexU 171 = [65, 66] := by
  rw [hexU_big (by decide), hexU_small (by decide)]
  decide +kernel
theorem alive_t : textOf 171 = [48, 65, 66, 72] := by
  unfold textOf hexZ
  rw [if_neg (by decide), if_neg (by decide)]
  show (match hexU 171 with | [] => [] | c :: r => if 57 < c.toNat then 48 :: c :: r else c :: r) ++ [72] = _
  rw [hexU_171]
  rfl
theorem alive_h : hexS (-1) 2 = [70, 70] := by decide +kernel
theorem alive_s : sgn 255 = -1 := by decide +kernel
set_option maxHeartbeats 1000000 in
theorem alive1_any (w : World) (hT : T16 w) : Calls Tryd.prog 11 #[] w fun e w' => e = .returned (.bool true) ∧ Below w.heap.size w w' := by
  have C1 : Hid (Calls Tryd.prog 12 #[.string ⟨#[49, 48, 49, 48, 98]⟩] w fun e w' => e = .returned (.tuple #[.int .i64 10, .bool true]) ∧ Below w.heap.size w w') := by
    have := parse_num ⟨#[49, 48, 49, 48, 98]⟩ w (by decide)
    rw [show pval (⟨#[49, 48, 49, 48, 98]⟩ : ByteArray).data.toList = some 10 from alive_p] at this
    exact this
  have C2 : Hid (∀ W : World, Below w.heap.size w W → Calls Tryd.prog 14 #[.int .i64 171] W fun e w' => e = .returned (.string ⟨#[48, 65, 66, 72]⟩) ∧ Below W.heap.size W w') := fun W hb => by
    have := text_any 171 W (hT.after hb (Nat.le_refl _))
    rw [alive_t] at this
    exact this
  have C3 : Hid (∀ W : World, Calls Tryd.prog 26 #[.int .i64 (-1), .int .i64 2] W fun e w' => e = .returned (.string ⟨#[70, 70]⟩) ∧ Below W.heap.size W w') := fun W => by
    have := hex_any (-1) 2 (by decide) W
    rw [alive_h] at this
    exact this
  have C4 : Hid (∀ W : World, Calls Tryd.prog 19 #[.int .u8 255] W fun e w' => e = .returned (.int .i64 (-1)) ∧ W = w') := fun W => by
    have := signed_any 255 W
    rw [alive_s] at this
    exact this
  clear hT
  go_enter Tryd.func11, Tryd.ntmps11
  go_wp2_with (first
    | (go_at_call 12; refine C1.out.mono ?_; rintro e w1 ⟨rfl, hb⟩; have B1 := Lib.hid hb; clear hb)
    | (go_at_call 14; refine (C2.out _ B1.out).mono ?_; rintro e w2 ⟨rfl, hb⟩; have B2 := Lib.hid (B1.out.trans (hb.mono B1.out.size)); clear hb)
    | (go_at_call 26; refine (C3.out _).mono ?_; rintro e w3 ⟨rfl, hb⟩; have B3 := Lib.hid (B2.out.trans (hb.mono B2.out.size)); clear hb)
    | (go_at_call 19; refine (C4.out _).mono ?_; rintro e w4 ⟨rfl, rfl⟩))
  go_ret
  exact ⟨rfl, B3.out⟩
end Go.Proofs.YtilfbnfejnjaeaaDoor
