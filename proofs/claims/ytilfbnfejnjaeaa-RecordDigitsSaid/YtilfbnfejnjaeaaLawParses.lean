/- The walk of the statement RecordParses. -/
import Derived.Test.YtilfbnfejnjaeaaAlive3
namespace Go.Proofs.Ytilfbnfejnjaeaa
open Go.RowKit

theorem two_boxes {w1 w2 w4 : World} {x y z x' y' z' : Value} {t t' : TypeId} (h2 : Below (w1.alloc (.cells #[x, y, z] t)).heap.size (w1.alloc (.cells #[x, y, z] t)) w2) (h4 : Below (w2.alloc (.cells #[x', y', z'] t')).heap.size (w2.alloc (.cells #[x', y', z'] t')) w4) :
    w4.cell? ⟨w1.heap.size, 0, none⟩ = some x ∧ w4.cell? ⟨w1.heap.size, 1, none⟩ = some y ∧ w4.cell? ⟨w1.heap.size, 2, none⟩ = some z ∧
    w4.cell? ⟨w2.heap.size, 0, none⟩ = some x' ∧ w4.cell? ⟨w2.heap.size, 1, none⟩ = some y' ∧ w4.cell? ⟨w2.heap.size, 2, none⟩ = some z' := by
  obtain ⟨a0, a1, a2, _⟩ := box_three h2
  obtain ⟨b0, b1, b2, _⟩ := box_three h4
  have hk : Below w2.heap.size w2 w4 := below_box h4
  have hlt := lt_of_cell a0
  exact ⟨(hk.cell (p := ⟨w1.heap.size, 0, none⟩) hlt).trans a0, (hk.cell (p := ⟨w1.heap.size, 1, none⟩) hlt).trans a1, (hk.cell (p := ⟨w1.heap.size, 2, none⟩) hlt).trans a2, b0, b1, b2⟩
theorem rsame_true (t a : Int) (A A' : Option Addr) (d : List UInt8) (c c' : Nat) (w : World) (p p' : Nat → Prop) (h : Rd w p A (bs d)) (h' : Rd w p' A' (bs d)) :
    Calls Try.prog 16 #[.agg #[.int .i64 t, .int .i64 a, .slice A d.length c], .agg #[.int .i64 t, .int .i64 a, .slice A' d.length c']] w fun e w' => e = .returned (.bool true) ∧ Below w.heap.size w w' := by
  have := rsame_any t a t a A A' d d c c' w p p' h h'
  rw [decide_eq_true ⟨rfl, rfl, rfl⟩] at this
  exact this
set_option maxHeartbeats 1000000 in
theorem parses_long (s : ByteArray) (w : World) (h : 1000 < (s.size : Int)) :
    Calls Try.prog 3 #[.string s] w fun e w' => e = .returned (.bool true) ∧ Below w.heap.size w w' := by
  have C := Lib.hid (alive3_any w)
  go_enter Try.func3, Try.ntmps3
  go_wp2_with (go_at_call 13; refine C.out.mono ?_; rintro e w1 ⟨rfl, hb⟩; have HB := Lib.hid hb; clear hb)
  go_ret
  exact ⟨rfl, HB.out⟩
set_option maxHeartbeats 1000000 in
theorem parses_short (s : ByteArray) (w : World) (h : (s.size : Int) ≤ 1000) :
    Calls Try.prog 3 #[.string s] w fun e w' => e = .returned (.bool true) ∧ Below w.heap.size w w' := by
  have C1 : Hid (∀ W : World, Calls Try.prog 14 #[.string s] W (PRec W (recOf s.data.toList).1 (recOf s.data.toList).2.1 (recOf s.data.toList).2.2.1 (recOf s.data.toList).2.2.2)) := fun W => parse_any s W (by omega)
  have C2 : Hid (∀ W : World, Calls Try.prog 15 #[.string s] W (PRec W (recOf s.data.toList).1 (recOf s.data.toList).2.1 (recOf s.data.toList).2.2.1 (recOf s.data.toList).2.2.2)) := fun W => rparse_any s W (by omega)
  have C3 : Hid (∀ W : World, Calls Try.prog 13 #[] W fun e w' => e = .returned (.bool true) ∧ Below W.heap.size W w') := fun W => alive3_any W
  obtain ⟨r, hr⟩ : ∃ r, recOf s.data.toList = r := ⟨_, rfl⟩
  obtain ⟨k, t, a, d⟩ := r
  rw [hr] at C1 C2
  have C1 : Hid (∀ W : World, Calls Try.prog 14 #[.string s] W (PRec W k t a d)) := C1.out
  have C2 : Hid (∀ W : World, Calls Try.prog 15 #[.string s] W (PRec W k t a d)) := C2.out
  have d1 : ((k : Int) == (k : Int)) = true := beq_self_eq_true _
  clear hr
  go_enter Try.func3, Try.ntmps3
  go_wp2_with (first
    | (go_at_call 14; refine (C1.out _).mono ?_; rintro e w1 ⟨A, c, rfl, hr, hb⟩; have R1 := Lib.hid hr; have B1 := Lib.hid hb; clear hr hb)
    | (go_at_call 15; refine (C2.out _).mono ?_; rintro e w2 ⟨A', c', rfl, hr, hb⟩; have R2 := Lib.hid hr; have B2 := Lib.hid hb; clear hr hb)
    | (go_at_call 13; refine (C3.out _).mono ?_; rintro e w4 ⟨rfl, hb⟩; obtain ⟨a0, a1, a2, b0, b1, b2⟩ := two_boxes B2.out hb; have B4 := Lib.hid hb; clear hb)
    | (go_at_call 16; refine (rsame_true _ _ A A' d c c' w4 _ _ ((R1.out.after (below_box B2.out)).after (below_box B4.out)) (R2.out.after (below_box B4.out))).mono ?_; rintro e w5 ⟨rfl, hb⟩; have B5 := Lib.hid hb; clear hb))
  go_ret
  exact ⟨rfl, (B1.out.trans ((below_box B2.out).mono B1.out.size)).trans (((below_box B4.out).trans (B5.out.mono (below_box B4.out).size)).mono (Nat.le_trans B1.out.size (below_box B2.out).size))⟩
theorem parses_any (s : ByteArray) (w : World) : Calls Try.prog 3 #[.string s] w fun e w' => e = .returned (.bool true) ∧ Below w.heap.size w w' := by
  by_cases h : 1000 < (s.size : Int)
  · exact parses_long s w h
  · exact parses_short s w (by omega)
end Go.Proofs.Ytilfbnfejnjaeaa
