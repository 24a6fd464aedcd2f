/- The walk of the statement RecordPrints. -/
import Derived.Test.YtilfbnfejnjaeaaLawParses
import Derived.Test.YtilfbnfejnjaeaaSame3
import Derived.Test.YtilfbnfejnjaeaaRprint2
import Derived.Test.YtilfbnfejnjaeaaInv3
namespace Go.Proofs.Ytilfbnfejnjaeaa
open Go.RowKit

set_option maxHeartbeats 1000000 in
theorem prints_long (t a : Int) (A : Option Addr) (n c : Nat) (w : World) (h : 300 < (n : Int)) :
    Calls Try.prog 5 #[.agg #[.int .i64 t, .int .i64 a, .slice A n c]] w fun e w' => e = .returned (.bool true) ∧ Below w.heap.size w w' := by
  have C : Hid (∀ W : World, Calls Try.prog 13 #[] W fun e w' => e = .returned (.bool true) ∧ Below W.heap.size W w') := fun W => alive3_any W
  go_enter Try.func5, Try.ntmps5
  go_wp2_with (go_at_call 13; refine (C.out _).mono ?_; rintro e w1 ⟨rfl, hb⟩; have HB := Lib.hid (below_box hb); clear hb)
  go_ret
  exact ⟨rfl, HB.out⟩
set_option maxHeartbeats 1000000 in
theorem prints_no (t a : Int) (A : Option Addr) (n c : Nat) (w : World) (h : (n : Int) ≤ 300) (hr : rightB t a n = false) :
    Calls Try.prog 5 #[.agg #[.int .i64 t, .int .i64 a, .slice A n c]] w fun e w' => e = .returned (.bool true) ∧ Below w.heap.size w w' := by
  have C1 : Hid (∀ W : World, Calls Try.prog 21 #[.agg #[.int .i64 t, .int .i64 a, .slice A n c]] W fun e w' => e = .returned (.tuple #[.string ⟨#[]⟩, .bool false]) ∧ Below W.heap.size W w') := fun W => print_no t a A n c W hr
  have C2 : Hid (∀ W : World, Calls Try.prog 22 #[.agg #[.int .i64 t, .int .i64 a, .slice A n c]] W fun e w' => e = .returned (.tuple #[.string ⟨#[]⟩, .bool false]) ∧ Below W.heap.size W w') := fun W => rprint_no t a A n c W hr
  have C : Hid (∀ W : World, Calls Try.prog 13 #[] W fun e w' => e = .returned (.bool true) ∧ Below W.heap.size W w') := fun W => alive3_any W
  clear hr
  go_enter Try.func5, Try.ntmps5
  go_wp2_with (first
    | (go_at_call 21; refine (C1.out _).mono ?_; rintro e w1 ⟨rfl, hb⟩; obtain ⟨r0, r1, r2, _⟩ := box_three' hb; have B1 := Lib.hid (below_box hb); clear hb)
    | (go_at_call 22; refine (C2.out _).mono ?_; rintro e w2 ⟨rfl, hb⟩; have B2 := Lib.hid (B1.out.trans (hb.mono B1.out.size)); clear hb)
    | (go_at_call 13; refine (C.out _).mono ?_; rintro e w3 ⟨rfl, hb⟩; have B3 := Lib.hid (B2.out.trans (hb.mono B2.out.size)); clear hb))
  go_ret
  exact ⟨rfl, B3.out⟩
/-- The cells of a box of three, in a later world. -/
theorem three_on {n g : Nat} {w w' : World} {x y z : Value} (h : Below n w w') (hg : g < n) (h0 : w.cell? ⟨g, 0, none⟩ = some x) (h1 : w.cell? ⟨g, 1, none⟩ = some y) (h2 : w.cell? ⟨g, 2, none⟩ = some z) :
    w'.cell? ⟨g, 0, none⟩ = some x ∧ w'.cell? ⟨g, 1, none⟩ = some y ∧ w'.cell? ⟨g, 2, none⟩ = some z :=
  ⟨(h.cell (p := ⟨g, 0, none⟩) hg).trans h0, (h.cell (p := ⟨g, 1, none⟩) hg).trans h1, (h.cell (p := ⟨g, 2, none⟩) hg).trans h2⟩
theorem osame_true (t a : Int) (A A' : Option Addr) (d : List UInt8) (c c' : Nat) (w : World) (p p' : Nat → Prop) (hm : (d.length : Int) ≤ 1000) (h : Rd w p A (bs d)) (h' : Rd w p' A' (bs d)) :
    Calls Try.prog 24 #[.agg #[.int .i64 t, .int .i64 a, .slice A d.length c], .agg #[.int .i64 t, .int .i64 a, .slice A' d.length c']] w fun e w' => e = .returned (.bool true) ∧ Below w.heap.size w w' := by
  have := osame_any t a t a A A' d d c c' w p p' (by omega) h h'
  rw [decide_eq_true ⟨rfl, rfl, rfl⟩] at this
  exact this
theorem prints_mid {w w2 w3 w4 w5 w6 : World} {o o' : Obj} (B2 : Below w.heap.size w w2) (Q3 : Below w2.heap.size w2 w3) (Q4 : Below (w3.alloc o).heap.size (w3.alloc o) w4) (Q5 : Below w4.heap.size w4 w5) (Q6 : Below (w5.alloc o').heap.size (w5.alloc o') w6) :
    Below (w3.alloc o).heap.size (w3.alloc o) w5 ∧ Below w5.heap.size w5 w6 ∧ Below w3.heap.size w3 w6 ∧ Below w2.heap.size w2 w6 ∧ Below w.heap.size w w6 := by
  have h35 := Q4.trans (Q5.mono Q4.size)
  have h56 := below_box Q6
  have h36 := (below_box h35).trans (h56.mono (below_box h35).size)
  have h26 := Q3.trans (h36.mono Q3.size)
  exact ⟨h35, h56, h36, h26, B2.trans (h26.mono B2.size)⟩
set_option maxHeartbeats 2000000 in
theorem prints_yes (t a : Int) (A : Option Addr) (d : List UInt8) (c : Nat) (p : Nat → Prop) (w : World) (h : (d.length : Int) ≤ 300) (hr : rightB t a d.length = true) (hd : Rd w p A (bs d)) :
    Calls Try.prog 5 #[.agg #[.int .i64 t, .int .i64 a, .slice A d.length c]] w fun e w' => e = .returned (.bool true) ∧ Below w.heap.size w w' := by
  obtain ⟨k1, k2, k3, k4, k5⟩ := (rightB_iff _ _ _).1 hr
  obtain ⟨L, hL⟩ : ∃ L : ByteArray, (⟨(lineOf (headB d.length a t ++ d)).toArray⟩ : ByteArray) = L := ⟨_, rfl⟩
  have hl : L.data.toList = lineOf (headB d.length a t ++ d) := by rw [← hL]
  have hLs : L.size = 11 + 2 * d.length := by
    rw [← str_len, hl, lineOf, List.length_cons, hexes_length, List.length_append, List.length_append]
    simp [headB]
    omega
  obtain ⟨M, hM⟩ : ∃ M : ByteArray, (⟨((L.extract 1 L.size).data.toList.map lowc).toArray⟩ : ByteArray) = M := ⟨_, rfl⟩
  have htail : (L.extract 1 L.size).data.toList = (lineOf (headB d.length a t ++ d)).drop 1 := by
    rw [tail58 (r := (lineOf (headB d.length a t ++ d)).drop 1) hl]
  have hm : M.data.toList = ((lineOf (headB d.length a t ++ d)).drop 1).map lowc := by rw [← hM, ← htail]
  have hMs : M.size = 10 + 2 * d.length := by
    rw [← str_len, hm, List.length_map, List.length_drop, ← hl, str_len, hLs]
    omega
  have C1 : Hid (∀ W : World, Below w.heap.size w W → Calls Try.prog 21 #[.agg #[.int .i64 t, .int .i64 a, .slice A d.length c]] W fun e w' => e = .returned (.tuple #[.string L, .bool true]) ∧ Below W.heap.size W w') := fun W hb => by
    have := print_yes t a A d c p W hr (hd.after hb)
    rw [hL] at this
    exact this
  have C2 : Hid (∀ W : World, Below w.heap.size w W → Calls Try.prog 22 #[.agg #[.int .i64 t, .int .i64 a, .slice A d.length c]] W fun e w' => e = .returned (.tuple #[.string L, .bool true]) ∧ Below W.heap.size W w') := fun W hb => by
    have := rprint_yes t a A d c p W hr (hd.after hb)
    rw [hL] at this
    exact this
  have et : ((t.toNat : Nat) : Int) = t := by omega
  have ea : ((a.toNat : Nat) : Int) = a := by omega
  have C3 : Hid (∀ W : World, Calls Try.prog 14 #[.string L] W (PRec W 0 t a d)) := fun W => by
    have := parse_any L W (by omega)
    rw [hl, rec_line hr] at this
    simp only [et, ea] at this
    exact this
  have C4 : Hid (∀ W : World, Calls Try.prog 23 #[.string (L.extract 1 L.size)] W fun e w' => e = .returned (.string M) ∧ Below W.heap.size W w') := fun W => by
    have := lower_any (L.extract 1 L.size) W (by unfold maxLen; rw [← str_len, htail, List.length_drop, ← hl, str_len]; omega)
    rw [hM] at this
    exact this
  have C5 : Hid (∀ W : World, Calls Try.prog 14 #[.string (⟨#[58]⟩ ++ M)] W (PRec W 0 t a d)) := fun W => by
    have e : ((⟨#[58]⟩ : ByteArray) ++ M).data.toList = 58 :: ((lineOf (headB d.length a t ++ d)).drop 1).map lowc := by
      rw [ByteArray.data_append, Array.toList_append, hm]
      rfl
    have hs : ((⟨#[58]⟩ : ByteArray) ++ M).size = 1 + M.size := by rw [ByteArray.size_append]; rfl
    have := parse_any (⟨#[58]⟩ ++ M) W (by omega)
    rw [e, rec_low hr] at this
    simp only [et, ea] at this
    exact this
  have C6 : Hid (∀ W : World, Calls Try.prog 13 #[] W fun e w' => e = .returned (.bool true) ∧ Below W.heap.size W w') := fun W => alive3_any W
  have C7 : Hid (∀ (W : World) (A1 : Option Addr) c1 q, Below w.heap.size w W → Rd W q A1 (bs d) → Calls Try.prog 16 #[.agg #[.int .i64 t, .int .i64 a, .slice A1 d.length c1], .agg #[.int .i64 t, .int .i64 a, .slice A d.length c]] W fun e w' => e = .returned (.bool true) ∧ Below W.heap.size W w') := fun W A1 c1 q hb hr1 => rsame_true t a A1 A d c1 c W q p hr1 (hd.after hb)
  have C8 : Hid (∀ (W : World) (A1 A2 : Option Addr) c1 c2 q1 q2, Rd W q1 A1 (bs d) → Rd W q2 A2 (bs d) → Calls Try.prog 24 #[.agg #[.int .i64 t, .int .i64 a, .slice A1 d.length c1], .agg #[.int .i64 t, .int .i64 a, .slice A2 d.length c2]] W fun e w' => e = .returned (.bool true) ∧ Below W.heap.size W w') := fun W A1 A2 c1 c2 q1 q2 h1 h2 => osame_true t a A1 A2 d c1 c2 W q1 q2 (by omega) h1 h2
  obtain ⟨n, hn⟩ : ∃ n, d.length = n := ⟨_, rfl⟩
  have PR : Hid (∀ (W w' : World) e, PRec W 0 t a d e w' → ∃ A1 c1, e = .returned (.tuple #[.agg #[.int .i64 t, .int .i64 a, .slice A1 n c1], .int .i64 0]) ∧ Rd w' (fun q => W.heap.size ≤ q) A1 (bs d) ∧ Below W.heap.size W w') := fun W w' e h1 => by
    rw [← hn]
    exact h1
  rw [hn] at h C1 C2 C7 C8 k5 hLs hMs
  have hL1 : 1 ≤ L.size := by omega
  have hL2 : L.size ≤ 1000 := by omega
  have hM2 : M.size ≤ 1000 := by omega
  rw [hn]
  clear hr hd hn hl hL hM hm htail hLs hMs k1 k2 k3 k4 et ea
  go_enter Try.func5, Try.ntmps5
  have B0 : Hid (Below w.heap.size w (w.alloc (.cells #[.int .i64 t, .int .i64 a, .slice A n c] 29))) := (Below.refl _ _).alloc (Nat.le_refl _) _
  go_wp2_with (first
    | (go_at_call 21; refine (C1.out _ B0.out).mono ?_; rintro e w1 ⟨rfl, hb⟩; obtain ⟨r0, r1, r2, _⟩ := box_three' hb; have B1 := Lib.hid (below_box hb); clear hb)
    | (go_at_call 22; refine (C2.out _ B1.out).mono ?_; rintro e w2 ⟨rfl, hb⟩; obtain ⟨s0, s1, s2⟩ := three_on hb (lt_of_cell r0) r0 r1 r2; have B2 := Lib.hid (B1.out.trans (hb.mono B1.out.size)); clear hb)
    | (go_at_call 14; (with_reducible refine (C3.out _).mono ?_); intro e w3 he; obtain ⟨A3, c3, rfl, hr, hb⟩ := PR.out _ _ _ he; have R3 := Lib.hid hr; have Q3 := Lib.hid hb; clear he hr hb)
    | (go_at_call 23; refine (C4.out _).mono ?_; rintro e w4 ⟨rfl, hb⟩; have Q4 := Lib.hid hb; clear hb)
    | (go_at_call 14; refine (C5.out _).mono ?_; intro e w5 he; obtain ⟨A5, c5, rfl, hr, hb⟩ := PR.out _ _ _ he; have R5 := Lib.hid hr; have Q5 := Lib.hid hb; clear he hr hb)
    | (go_at_call 13; refine (C6.out _).mono ?_; rintro e w6 ⟨rfl, hb⟩; obtain ⟨h35, h56, h36, h26, h06⟩ := prints_mid B2.out Q3.out Q4.out Q5.out hb; obtain ⟨x0, x1, x2, y0, y1, y2⟩ := two_boxes h35 hb; obtain ⟨z0, z1, z2⟩ := three_on h26 (lt_of_cell s0) s0 s1 s2; have R3' := Lib.hid (R3.out.after h36); have R5' := Lib.hid (R5.out.after h56); have B6 := Lib.hid h06; clear hb h35 h56 h36 h26 h06 r0 r1 r2 s0 s1 s2)
    | (go_at_call 16; refine (C7.out _ _ _ _ B6.out R3'.out).mono ?_; rintro e w7 ⟨rfl, hb⟩; obtain ⟨u0, u1, u2⟩ := three_on hb (lt_of_cell x0) x0 x1 x2; obtain ⟨v0, v1, v2⟩ := three_on hb (lt_of_cell y0) y0 y1 y2; have R3'' := Lib.hid (R3'.out.after hb); have R5'' := Lib.hid (R5'.out.after hb); have B7 := Lib.hid (B6.out.trans (hb.mono B6.out.size)); clear hb)
    | (go_at_call 24; refine (C8.out _ _ _ _ _ _ _ R3''.out R5''.out).mono ?_; rintro e w8 ⟨rfl, hb⟩; have B8 := Lib.hid (B7.out.trans (hb.mono B7.out.size)); clear hb))
  go_ret
  exact ⟨rfl, B8.out⟩
theorem prints_any (t a : Int) (A : Option Addr) (d : List UInt8) (c : Nat) (p : Nat → Prop) (w : World) (hd : Rd w p A (bs d)) :
    Calls Try.prog 5 #[.agg #[.int .i64 t, .int .i64 a, .slice A d.length c]] w fun e w' => e = .returned (.bool true) ∧ Below w.heap.size w w' := by
  by_cases h : 300 < (d.length : Int)
  · exact prints_long t a A _ c w h
  · cases hr : rightB t a d.length with
    | false => exact prints_no t a A _ c w (by omega) hr
    | true => exact prints_yes t a A d c p w (by omega) hr hd
end Go.Proofs.Ytilfbnfejnjaeaa
