/- Parts of the proof of TopPrefixes, in one text: TpLaw, TpSame. -/
import Derived.Test.YtpjcgimgiegehaaGreatDoorMK3
import Derived.Test.YtpjcgimgiegehaaGreatDoorMK4
import Derived.Deep.RegionHeld3
import Derived.Test.YtpjcgimgiegehaaGreatDoorRows
import Derived.WalkSpells
/- The walk of the statement TopPrefixes, over contracts of what it calls. -/
namespace Go.Proofs.YtpjcgimgiegehaaGreatDoor
open Go.RowKit

/-- What At answers, where nothing is asked of the entry. -/
abbrev AtIs (w : World) (p o k : Int) : Prop := ∀ W, Below w.heap.size w W → Calls Tryz.prog 4 #[.int .i64 p, .int .u8 o] W fun e w' => ∃ (p' o' : Int) (nm ex : ByteArray) (al : Bool) (A : Option Addr) (n c : Nat), e = .returned (.tuple #[.agg #[.int .i64 p', .int .u8 o', .string nm, .slice A n c, .string ex, .bool al], .int .i64 k]) ∧ Below W.heap.size W w'
abbrev AliveIs (w : World) : Prop := ∀ W, Below w.heap.size w W → Calls Tryz.prog 5 #[] W fun e w' => e = .returned (.bool true) ∧ Below W.heap.size W w'
theorem keep_alloc0 {w : World} {p : Addr} {u : Value} (O : Obj) (h : w.cell? p = some u) : (w.alloc O).cell? p = some u := (World.cell?_alloc_lt w O p (lt_of_cell h)).trans h
theorem keep_below {w w' : World} {p : Addr} {u : Value} (hb : Below w.heap.size w w') (h : w.cell? p = some u) : w'.cell? p = some u := (hb.cell (lt_of_cell h)).trans h
/-- The cells of the arguments' boxes. -/
structure Bx (B : Nat) (a0 a1 o0 o1 x0 x1 x2 x3 : Int) (W : World) : Prop where
  c0 : W.cell? ⟨B, 0, none⟩ = some (.int .u8 a0)
  c1 : W.cell? ⟨B, 1, none⟩ = some (.int .u8 a1)
  c2 : W.cell? ⟨B + 1, 0, none⟩ = some (.int .u8 o0)
  c3 : W.cell? ⟨B + 1, 1, none⟩ = some (.int .u8 o1)
  c4 : W.cell? ⟨B + 1 + 1, 0, none⟩ = some (.int .i64 x0)
  c5 : W.cell? ⟨B + 1 + 1, 1, none⟩ = some (.int .i64 x1)
  c6 : W.cell? ⟨B + 1 + 1, 2, none⟩ = some (.int .i64 x2)
  c7 : W.cell? ⟨B + 1 + 1, 3, none⟩ = some (.int .i64 x3)
section
variable {B : Nat} {a0 a1 o0 o1 x0 x1 x2 x3 : Int} {W W' : World}
theorem Bx.after (h : Bx B a0 a1 o0 o1 x0 x1 x2 x3 W) (hb : Below W.heap.size W W') : Bx B a0 a1 o0 o1 x0 x1 x2 x3 W' :=
  ⟨keep_below hb h.c0, keep_below hb h.c1, keep_below hb h.c2, keep_below hb h.c3, keep_below hb h.c4, keep_below hb h.c5, keep_below hb h.c6, keep_below hb h.c7⟩
theorem Bx.alloc (h : Bx B a0 a1 o0 o1 x0 x1 x2 x3 W) (O : Obj) : Bx B a0 a1 o0 o1 x0 x1 x2 x3 (W.alloc O) :=
  ⟨keep_alloc0 O h.c0, keep_alloc0 O h.c1, keep_alloc0 O h.c2, keep_alloc0 O h.c3, keep_alloc0 O h.c4, keep_alloc0 O h.c5, keep_alloc0 O h.c6, keep_alloc0 O h.c7⟩
end
theorem cell_new (w : World) (vs : Array Value) (t : TypeId) (j : Nat) (u : Value) (h : vs[j]? = some u) : (w.alloc (.cells vs t)).cell? ⟨w.heap.size, j, none⟩ = some u := by
  have hb : (w.alloc (.cells vs t)).heap[w.heap.size]? = some (.cells vs t (0, 0)) := heap_alloc_new w _
  simp only [World.cell?, hb]
  simpa using h
theorem Bx.new (a0 a1 o0 o1 x0 x1 x2 x3 : Int) (w : World) (t t' t'' : TypeId) :
    Bx w.heap.size a0 a1 o0 o1 x0 x1 x2 x3 (((w.alloc (.cells #[.int .u8 a0, .int .u8 a1] t)).alloc (.cells #[.int .u8 o0, .int .u8 o1] t')).alloc (.cells #[.int .i64 x0, .int .i64 x1, .int .i64 x2, .int .i64 x3] t'')) := by
  have e1 : (w.alloc (.cells #[.int .u8 a0, .int .u8 a1] t)).heap.size = w.heap.size + 1 := by simp
  have e2 : ((w.alloc (.cells #[.int .u8 a0, .int .u8 a1] t)).alloc (.cells #[.int .u8 o0, .int .u8 o1] t')).heap.size = w.heap.size + 1 + 1 := by simp
  have k1 := fun j u h => keep_alloc0 (.cells #[.int .i64 x0, .int .i64 x1, .int .i64 x2, .int .i64 x3] t'') (keep_alloc0 (.cells #[.int .u8 o0, .int .u8 o1] t') (cell_new w #[.int .u8 a0, .int .u8 a1] t j u h))
  have k2 := fun j u h => keep_alloc0 (.cells #[.int .i64 x0, .int .i64 x1, .int .i64 x2, .int .i64 x3] t'') (cell_new (w.alloc (.cells #[.int .u8 a0, .int .u8 a1] t)) #[.int .u8 o0, .int .u8 o1] t' j u h)
  have k3 := cell_new ((w.alloc (.cells #[.int .u8 a0, .int .u8 a1] t)).alloc (.cells #[.int .u8 o0, .int .u8 o1] t')) #[.int .i64 x0, .int .i64 x1, .int .i64 x2, .int .i64 x3] t''
  rw [e1] at k2
  rw [e2] at k3
  exact ⟨k1 0 _ rfl, k1 1 _ rfl, k2 0 _ rfl, k2 1 _ rfl, k3 0 _ rfl, k3 1 _ rfl, k3 2 _ rfl, k3 3 _ rfl⟩
theorem below_alloc {B : Nat} {w W : World} (h : Below B w W) (hB : B ≤ w.heap.size) (O : Obj) : Below B w (W.alloc O) := h.alloc (by have := h.size; omega) O
/-- The cells of an entry's box. -/
structure En (g : Nat) (p o : Int) (nm : ByteArray) (A : Option Addr) (n c : Nat) (ex : ByteArray) (al : Bool) (W : World) : Prop where
  c0 : W.cell? ⟨g, 0, none⟩ = some (.int .i64 p)
  c1 : W.cell? ⟨g, 1, none⟩ = some (.int .u8 o)
  c2 : W.cell? ⟨g, 2, none⟩ = some (.string nm)
  c3 : W.cell? ⟨g, 3, none⟩ = some (.slice A n c)
  c4 : W.cell? ⟨g, 4, none⟩ = some (.string ex)
  c5 : W.cell? ⟨g, 5, none⟩ = some (.bool al)
section
variable {g : Nat} {p o : Int} {nm : ByteArray} {A : Option Addr} {n c : Nat} {ex : ByteArray} {al : Bool} {W W' : World}
theorem En.after (h : En g p o nm A n c ex al W) (hb : Below W.heap.size W W') : En g p o nm A n c ex al W' :=
  ⟨keep_below hb h.c0, keep_below hb h.c1, keep_below hb h.c2, keep_below hb h.c3, keep_below hb h.c4, keep_below hb h.c5⟩
theorem En.alloc (h : En g p o nm A n c ex al W) (O : Obj) : En g p o nm A n c ex al (W.alloc O) :=
  ⟨keep_alloc0 O h.c0, keep_alloc0 O h.c1, keep_alloc0 O h.c2, keep_alloc0 O h.c3, keep_alloc0 O h.c4, keep_alloc0 O h.c5⟩
end
theorem En.new (p o : Int) (nm : ByteArray) (A : Option Addr) (n c : Nat) (ex : ByteArray) (al : Bool) (w : World) (t : TypeId) : En w.heap.size p o nm A n c ex al (w.alloc (.cells #[.int .i64 p, .int .u8 o, .string nm, .slice A n c, .string ex, .bool al] t)) := by
  have k := cell_new w #[.int .i64 p, .int .u8 o, .string nm, .slice A n c, .string ex, .bool al] t
  exact ⟨k 0 _ rfl, k 1 _ rfl, k 2 _ rfl, k 3 _ rfl, k 4 _ rfl, k 5 _ rfl⟩
/-- What At answers at a legal opcode; RA holds of the row of operands. -/
abbrev AtLegal (w : World) (p o : Int) (nm : ByteArray) (n : Nat) (ex : ByteArray) (al : Bool) (RA : World → Option Addr → Nat → Prop) : Prop := ∀ W, Below w.heap.size w W → Calls Tryz.prog 4 #[.int .i64 p, .int .u8 o] W fun e w' => ∃ (A : Option Addr) (c : Nat), e = .returned (.tuple #[.agg #[.int .i64 p, .int .u8 o, .string nm, .slice A n c, .string ex, .bool al], .int .i64 1]) ∧ RA w' A c ∧ Below W.heap.size W w'
abbrev RtLegal (w : World) (p o : Int) (nm : ByteArray) (n : Nat) (ex : ByteArray) (al : Bool) (RA : World → Option Addr → Nat → Prop) : Prop := ∀ W, Below w.heap.size w W → Calls Tryz.prog 7 #[.int .i64 p, .int .u8 o] W fun e w' => ∃ (A : Option Addr) (c : Nat), e = .returned (.tuple #[.agg #[.int .i64 p, .int .u8 o, .string nm, .slice A n c, .string ex, .bool al], .int .i64 1]) ∧ RA w' A c ∧ Below W.heap.size W w'
/-- What Bytes answers at an entry. -/
abbrev BytesIs (w : World) (p o : Int) (nm : ByteArray) (n : Nat) (ex : ByteArray) (al : Bool) (RA : World → Option Addr → Nat → Prop) (x y : Int) (l : Nat) (L : List UInt8) (r : Bool) : Prop := ∀ W A c, Below w.heap.size w W → RA W A c → Calls Tryz.prog 6 #[.agg #[.int .i64 p, .int .u8 o, .string nm, .slice A n c, .string ex, .bool al], .int .i64 x, .int .i64 y] W fun e w' => ∃ (A' : Option Addr) (c' : Nat), e = .returned (.tuple #[.slice A' l c', .bool r]) ∧ l ≤ c' ∧ Rd w' (fun _ => True) A' (bs L) ∧ Below W.heap.size W w'
/-- What is kept of a row as the world goes on. -/
def Keeps (RA : World → Option Addr → Nat → Prop) : Prop := ∀ W W' A c, RA W A c → Below W.heap.size W W' → RA W' A c
theorem Keeps.alloc {RA : World → Option Addr → Nat → Prop} (h : Keeps RA) {W : World} {A : Option Addr} {c : Nat} (hr : RA W A c) (O : Obj) : RA (W.alloc O) A c := h W _ A c hr ((Below.refl _ _).alloc (Nat.le_refl _) O)
set_option maxRecDepth 100000 in
set_option maxHeartbeats 2000000 in
theorem tp_other (a0 a1 o0 o1 p0 p1 : Int) (x0 x1 x2 x3 : Int) (k k' : Int) (w : World) (hm0 : (wrap64 a0).tmod 7 = p0) (hm1 : (wrap64 a1).tmod 7 = p1)
    (C1 : Hid (AtIs w p0 o0 k)) (C2 : Hid (AtIs w p1 o1 k')) (C3 : Hid (AliveIs w)) (hk : k ≠ 1 ∨ (k = 1 ∧ k' ≠ 1)) :
    Calls Tryz.prog 3 #[.agg #[.int .u8 a0, .int .u8 a1], .agg #[.int .u8 o0, .int .u8 o1], .agg #[.int .i64 x0, .int .i64 x1, .int .i64 x2, .int .i64 x3]] w fun e w' => e = .returned (.bool true) ∧ Below w.heap.size w w' := by
  have HA : Hid (Below w.heap.size w (((w.alloc (.cells #[.int .u8 a0, .int .u8 a1] 22)).alloc (.cells #[.int .u8 o0, .int .u8 o1] 22)).alloc (.cells #[.int .i64 x0, .int .i64 x1, .int .i64 x2, .int .i64 x3] 23))) := (((Below.refl _ _).alloc (Nat.le_refl _) _).alloc (by simp) _).alloc (by simp; omega) _
  have X0 := Lib.hid (Bx.new a0 a1 o0 o1 x0 x1 x2 x3 w 22 22 23)
  have HC : Hid ((k != 1) = true ∨ ((k != 1) = false ∧ (k' != 1) = true)) := by
    rcases hk with hk | ⟨hk, hk'⟩
    · exact .inl (by simpa using hk)
    · exact .inr ⟨by simpa using hk, by simpa using hk'⟩
  clear hk
  rcases HC.out with d1 | ⟨d1, d2⟩
  all_goals
    clear HC
    go_enter Tryz.func3, Tryz.ntmps3
    go_wp2_with (first
      | (go_at_call 4; (with_reducible refine (C1.out _ HA.out).mono ?_); rintro e w1 ⟨p_1, o_1, nm_1, ex_1, al_1, A_1, n_1, c_1, rfl, hb⟩; have HB1 := Lib.hid (below_alloc (HA.out.trans (hb.mono HA.out.size)) (Nat.le_refl _) (.cells #[.int .i64 p_1, .int .u8 o_1, .string nm_1, .slice A_1 n_1 c_1, .string ex_1, .bool al_1] 28)); have X1 := Lib.hid ((X0.out.after hb).alloc (.cells #[.int .i64 p_1, .int .u8 o_1, .string nm_1, .slice A_1 n_1 c_1, .string ex_1, .bool al_1] 28)); obtain ⟨f10, f11, f12, f13, f14, f15, f16, f17⟩ := X1.out; clear hb)
      | (go_at_call 4; (with_reducible refine (C2.out _ HB1.out).mono ?_); rintro e w2 ⟨p_2, o_2, nm_2, ex_2, al_2, A_2, n_2, c_2, rfl, hb⟩; have HB2 := Lib.hid (below_alloc (HB1.out.trans (hb.mono HB1.out.size)) (Nat.le_refl _) (.cells #[.int .i64 p_2, .int .u8 o_2, .string nm_2, .slice A_2 n_2 c_2, .string ex_2, .bool al_2] 28)); have X2 := Lib.hid ((X1.out.after hb).alloc (.cells #[.int .i64 p_2, .int .u8 o_2, .string nm_2, .slice A_2 n_2 c_2, .string ex_2, .bool al_2] 28)); obtain ⟨f20, f21, f22, f23, f24, f25, f26, f27⟩ := X2.out; clear hb)
      | (go_at_call 5; refine (C3.out _ HB2.out).mono ?_; rintro e w3 ⟨rfl, hb⟩; have HB3 := Lib.hid (HB2.out.trans (hb.mono HB2.out.size)); clear hb))
    go_ret
    exact ⟨rfl, HB3.out⟩
set_option maxRecDepth 100000 in
set_option maxHeartbeats 4000000 in
/-- Both opcodes are legal, and one of the two has no bytes with its numbers. -/
theorem tp_bad (a0 a1 p1 p2 o1 o2 : Int) (x0 x1 x2 x3 : Int) (w : World) (hm0 : (wrap64 a0).tmod 7 = p1) (hm1 : (wrap64 a1).tmod 7 = p2) (nm1 nm2 ex1 ex2 : ByteArray) (al1 al2 : Bool) (n1 n2 l1 l2 : Nat) (L1 L2 : List UInt8) (r1 r2 : Bool) (RA1 RA2 : World → Option Addr → Nat → Prop)
    (HK1 : Hid (Keeps RA1)) (HK2 : Hid (Keeps RA2)) (C1 : Hid (AtLegal w p1 o1 nm1 n1 ex1 al1 RA1)) (C2 : Hid (AtLegal w p2 o2 nm2 n2 ex2 al2 RA2)) (C3 : Hid (AliveIs w))
    (C4 : Hid (BytesIs w p1 o1 nm1 n1 ex1 al1 RA1 x0 x1 l1 L1 r1)) (C5 : Hid (BytesIs w p2 o2 nm2 n2 ex2 al2 RA2 x2 x3 l2 L2 r2)) (hr : r1 = false ∨ (r1 = true ∧ r2 = false)) :
    Calls Tryz.prog 3 #[.agg #[.int .u8 a0, .int .u8 a1], .agg #[.int .u8 o1, .int .u8 o2], .agg #[.int .i64 x0, .int .i64 x1, .int .i64 x2, .int .i64 x3]] w fun e w' => e = .returned (.bool true) ∧ Below w.heap.size w w' := by
  have HA : Hid (Below w.heap.size w (((w.alloc (.cells #[.int .u8 a0, .int .u8 a1] 22)).alloc (.cells #[.int .u8 o1, .int .u8 o2] 22)).alloc (.cells #[.int .i64 x0, .int .i64 x1, .int .i64 x2, .int .i64 x3] 23))) := (((Below.refl _ _).alloc (Nat.le_refl _) _).alloc (by simp) _).alloc (by simp; omega) _
  have X0 := Lib.hid (Bx.new a0 a1 o1 o2 x0 x1 x2 x3 w 22 22 23)
  rcases hr with rfl | ⟨rfl, rfl⟩
  all_goals
    go_enter Tryz.func3, Tryz.ntmps3
    go_wp2_with (first
      | (go_at_call 4; (with_reducible refine (C1.out _ HA.out).mono ?_); rintro e w1 ⟨A1, c1, rfl, hr1, hb⟩; have HB1 := Lib.hid (below_alloc (HA.out.trans (hb.mono HA.out.size)) (Nat.le_refl _) (.cells #[.int .i64 p1, .int .u8 o1, .string nm1, .slice A1 n1 c1, .string ex1, .bool al1] 28)); have X1 := Lib.hid ((X0.out.after hb).alloc (.cells #[.int .i64 p1, .int .u8 o1, .string nm1, .slice A1 n1 c1, .string ex1, .bool al1] 28)); have R1 := Lib.hid (HK1.out.alloc hr1 (.cells #[.int .i64 p1, .int .u8 o1, .string nm1, .slice A1 n1 c1, .string ex1, .bool al1] 28)); have N1 := Lib.hid (En.new p1 o1 nm1 A1 n1 c1 ex1 al1 w1 28); obtain ⟨f10, f11, f12, f13, f14, f15, f16, f17⟩ := X1.out; clear hb hr1)
      | (go_at_call 4; (with_reducible refine (C2.out _ HB1.out).mono ?_); rintro e w2 ⟨A2, c2, rfl, hr2, hb⟩; have HB2 := Lib.hid (below_alloc (HB1.out.trans (hb.mono HB1.out.size)) (Nat.le_refl _) (.cells #[.int .i64 p2, .int .u8 o2, .string nm2, .slice A2 n2 c2, .string ex2, .bool al2] 28)); have X2 := Lib.hid ((X1.out.after hb).alloc (.cells #[.int .i64 p2, .int .u8 o2, .string nm2, .slice A2 n2 c2, .string ex2, .bool al2] 28)); have R12 := Lib.hid (HK1.out.alloc (HK1.out _ _ _ _ R1.out hb) (.cells #[.int .i64 p2, .int .u8 o2, .string nm2, .slice A2 n2 c2, .string ex2, .bool al2] 28)); have R2 := Lib.hid (HK2.out.alloc hr2 (.cells #[.int .i64 p2, .int .u8 o2, .string nm2, .slice A2 n2 c2, .string ex2, .bool al2] 28)); have N2 := Lib.hid (En.new p2 o2 nm2 A2 n2 c2 ex2 al2 w2 28); have N12 := Lib.hid ((N1.out.after hb).alloc (.cells #[.int .i64 p2, .int .u8 o2, .string nm2, .slice A2 n2 c2, .string ex2, .bool al2] 28)); obtain ⟨f20, f21, f22, f23, f24, f25, f26, f27⟩ := X2.out; obtain ⟨g20, g21, g22, g23, g24, g25⟩ := N12.out; clear hb hr2)
      | (go_at_call 6; (with_reducible refine (C4.out _ _ _ HB2.out R12.out).mono ?_); rintro e w3 ⟨A3, c3, rfl, hc3, hd3, hb⟩; have HB3 := Lib.hid (HB2.out.trans (hb.mono HB2.out.size)); have X3 := Lib.hid (X2.out.after hb); have R23 := Lib.hid (HK2.out _ _ _ _ R2.out hb); have N23 := Lib.hid (N2.out.after hb); have D3 := Lib.hid hd3; obtain ⟨f30, f31, f32, f33, f34, f35, f36, f37⟩ := X3.out; obtain ⟨g30, g31, g32, g33, g34, g35⟩ := N23.out; clear hb hd3)
      | (go_at_call 6; (with_reducible refine (C5.out _ _ _ HB3.out R23.out).mono ?_); rintro e w4 ⟨A4, c4, rfl, hc4, hd4, hb⟩; have HB4 := Lib.hid (HB3.out.trans (hb.mono HB3.out.size)); have X4 := Lib.hid (X3.out.after hb); have D34 := Lib.hid (D3.out.after hb); have D4 := Lib.hid hd4; obtain ⟨f40, f41, f42, f43, f44, f45, f46, f47⟩ := X4.out; clear hb hd4)
      | (go_at_call 5; refine (C3.out _ HB4.out).mono ?_; rintro e w5 ⟨rfl, hb⟩; have HB5 := Lib.hid (HB4.out.trans (hb.mono HB4.out.size)); clear hb))
    go_ret
    exact ⟨rfl, HB5.out⟩
abbrev SameIs (w : World) (p1 o1 p2 o2 : Int) (mm1 mm2 xx1 xx2 : ByteArray) (ll1 ll2 : Bool) (k1 k2 : Nat) (RB1 RB2 : World → Option Addr → Nat → Prop) (sm : Bool) : Prop := ∀ W A c A' c', Below w.heap.size w W → RB1 W A c → RB2 W A' c' → Calls Tryz.prog 8 #[.agg #[.int .i64 p1, .int .u8 o1, .string mm1, .slice A k1 c, .string xx1, .bool ll1], .agg #[.int .i64 p2, .int .u8 o2, .string mm2, .slice A' k2 c', .string xx2, .bool ll2]] W fun e w' => e = .returned (.bool sm) ∧ Below W.heap.size W w'
abbrev EqualIs (L1 L2 : List UInt8) (m : Nat) (q : Bool) : Prop := ∀ W A A' c c', Rd W (fun _ => True) A (bs L1) → Rd W (fun _ => True) A' (bs L2) → Calls Tryz.prog 9 #[.slice A m c, .slice A' m c'] W fun e w' => e = .returned (.bool q) ∧ Below W.heap.size W w'
theorem addr_add0 (a : Addr) : a.add 0 = a := by simp [Addr.add]
set_option maxRecDepth 100000 in
theorem slice32 (A : Option Addr) (l c m : Nat) (w : World) (h : m ≤ c) : (Instr.sliceAt 32 (.slice A l c) none (some (.int .i64 (m : Int))) none).run Tryz.prog w = .ok (.slice A m c) w := by
  have hu : Tryz.prog.underlying 32 = some (.slice (Tryz.prog.elem 32)) := by kernel_rfl
  have hs : (sizeOf (Tryz.prog.elem 32)).run Tryz.prog w = .ok 1 w := by kernel_rfl
  rw [run_sliceAt_slice w _ _ _ _ _ hu, run_slice_h w _ A l c hu .i64 (m : Int) (by omega) (by omega), hs]
  simp only [Result.andThen_ok, sliced, Int.toNat_natCast, Nat.sub_zero, Nat.zero_mul]
  congr 2
  split
  · rfl
  · cases A with
    | none => rfl
    | some a => simp [addr_add0]
theorem rd_alloc {w : World} {A : Option Addr} {xs : List Value} (h : Rd w (fun _ => True) A xs) (O : Obj) : Rd (w.alloc O) (fun _ => True) A xs := h.after ((Below.refl _ _).alloc (Nat.le_refl _) O)
set_option maxRecDepth 100000 in
set_option maxHeartbeats 8000000 in
/-- Both opcodes are legal, and both have bytes. -/
theorem tp_main (a0 a1 p1 p2 o1 o2 : Int) (x0 x1 x2 x3 : Int) (w : World) (hm0 : (wrap64 a0).tmod 7 = p1) (hm1 : (wrap64 a1).tmod 7 = p2) (nm1 nm2 ex1 ex2 mm1 mm2 xx1 xx2 : ByteArray) (al1 al2 ll1 ll2 : Bool) (n1 n2 k1 k2 l1 l2 m : Nat) (L1 L2 : List UInt8) (RA1 RA2 RB1 RB2 : World → Option Addr → Nat → Prop)
    (HK1 : Hid (Keeps RA1)) (HK2 : Hid (Keeps RA2)) (HK5 : Hid (Keeps RB1)) (HK6 : Hid (Keeps RB2)) (C1 : Hid (AtLegal w p1 o1 nm1 n1 ex1 al1 RA1)) (C2 : Hid (AtLegal w p2 o2 nm2 n2 ex2 al2 RA2)) (C3 : Hid (AliveIs w))
    (C4 : Hid (BytesIs w p1 o1 nm1 n1 ex1 al1 RA1 x0 x1 l1 L1 true)) (C5 : Hid (BytesIs w p2 o2 nm2 n2 ex2 al2 RA2 x2 x3 l2 L2 true)) (C6 : Hid (RtLegal w p1 o1 mm1 k1 xx1 ll1 RB1)) (C7 : Hid (RtLegal w p2 o2 mm2 k2 xx2 ll2 RB2)) (sm b1 b2 q : Bool)
    (C8 : Hid (SameIs w p1 o1 p2 o2 mm1 mm2 xx1 xx2 ll1 ll2 k1 k2 RB1 RB2 sm)) (C9 : Hid (EqualIs L1 L2 m q)) (hm : min (l1 : Int) (l2 : Int) = (m : Int)) (hml1 : m ≤ l1) (hml2 : m ≤ l2) (d1 : (x0 == x2) = b1) (d2 : (x1 == x3) = b2) (hq : q = (sm && (b1 && b2))) :
    Calls Tryz.prog 3 #[.agg #[.int .u8 a0, .int .u8 a1], .agg #[.int .u8 o1, .int .u8 o2], .agg #[.int .i64 x0, .int .i64 x1, .int .i64 x2, .int .i64 x3]] w fun e w' => e = .returned (.bool true) ∧ Below w.heap.size w w' := by
  have HA : Hid (Below w.heap.size w (((w.alloc (.cells #[.int .u8 a0, .int .u8 a1] 22)).alloc (.cells #[.int .u8 o1, .int .u8 o2] 22)).alloc (.cells #[.int .i64 x0, .int .i64 x1, .int .i64 x2, .int .i64 x3] 23))) := (((Below.refl _ _).alloc (Nat.le_refl _) _).alloc (by simp) _).alloc (by simp; omega) _
  have X0 := Lib.hid (Bx.new a0 a1 o1 o2 x0 x1 x2 x3 w 22 22 23)
  rcases (show (sm = false ∧ q = false) ∨ (sm = true ∧ b1 = false ∧ q = false) ∨ (sm = true ∧ b1 = true ∧ b2 = false ∧ q = false) ∨ (sm = true ∧ b1 = true ∧ b2 = true ∧ q = true) by
    subst hq
    cases sm <;> cases b1 <;> cases b2 <;> simp) with ⟨rfl, rfl⟩ | ⟨rfl, rfl, rfl⟩ | ⟨rfl, rfl, rfl, rfl⟩ | ⟨rfl, rfl, rfl, rfl⟩
  all_goals
    clear hq
    go_enter Tryz.func3, Tryz.ntmps3
    go_wp2_with (first
      | (go_at_call 4; (with_reducible refine (C1.out _ HA.out).mono ?_); rintro e w1 ⟨A1, c1, rfl, hr1, hb⟩; have HB1 := Lib.hid (below_alloc (HA.out.trans (hb.mono HA.out.size)) (Nat.le_refl _) (.cells #[.int .i64 p1, .int .u8 o1, .string nm1, .slice A1 n1 c1, .string ex1, .bool al1] 28)); have X1 := Lib.hid ((X0.out.after hb).alloc (.cells #[.int .i64 p1, .int .u8 o1, .string nm1, .slice A1 n1 c1, .string ex1, .bool al1] 28)); have R1 := Lib.hid (HK1.out.alloc hr1 (.cells #[.int .i64 p1, .int .u8 o1, .string nm1, .slice A1 n1 c1, .string ex1, .bool al1] 28)); have N1 := Lib.hid (En.new p1 o1 nm1 A1 n1 c1 ex1 al1 w1 28); obtain ⟨f10, f11, f12, f13, f14, f15, f16, f17⟩ := X1.out; clear hb hr1)
      | (go_at_call 4; (with_reducible refine (C2.out _ HB1.out).mono ?_); rintro e w2 ⟨A2, c2, rfl, hr2, hb⟩; have HB2 := Lib.hid (below_alloc (HB1.out.trans (hb.mono HB1.out.size)) (Nat.le_refl _) (.cells #[.int .i64 p2, .int .u8 o2, .string nm2, .slice A2 n2 c2, .string ex2, .bool al2] 28)); have X2 := Lib.hid ((X1.out.after hb).alloc (.cells #[.int .i64 p2, .int .u8 o2, .string nm2, .slice A2 n2 c2, .string ex2, .bool al2] 28)); have R12 := Lib.hid (HK1.out.alloc (HK1.out _ _ _ _ R1.out hb) (.cells #[.int .i64 p2, .int .u8 o2, .string nm2, .slice A2 n2 c2, .string ex2, .bool al2] 28)); have R2 := Lib.hid (HK2.out.alloc hr2 (.cells #[.int .i64 p2, .int .u8 o2, .string nm2, .slice A2 n2 c2, .string ex2, .bool al2] 28)); have N2 := Lib.hid (En.new p2 o2 nm2 A2 n2 c2 ex2 al2 w2 28); have N12 := Lib.hid ((N1.out.after hb).alloc (.cells #[.int .i64 p2, .int .u8 o2, .string nm2, .slice A2 n2 c2, .string ex2, .bool al2] 28)); obtain ⟨f20, f21, f22, f23, f24, f25, f26, f27⟩ := X2.out; obtain ⟨g20, g21, g22, g23, g24, g25⟩ := N12.out; clear hb hr2 f10 f11 f12 f13 f14 f15 f16 f17)
      | (go_at_call 6; (with_reducible refine (C4.out _ _ _ HB2.out R12.out).mono ?_); rintro e w3 ⟨A3, c3, rfl, hc3, hd3, hb⟩; have HB3 := Lib.hid (HB2.out.trans (hb.mono HB2.out.size)); have X3 := Lib.hid (X2.out.after hb); have R23 := Lib.hid (HK2.out _ _ _ _ R2.out hb); have N23 := Lib.hid (N2.out.after hb); have D3 := Lib.hid hd3; have hsl3 := fun W => slice32 A3 l1 c3 m W (Nat.le_trans hml1 hc3); clear hc3; obtain ⟨f30, f31, f32, f33, f34, f35, f36, f37⟩ := X3.out; obtain ⟨g30, g31, g32, g33, g34, g35⟩ := N23.out; clear hb hd3 f20 f21 f22 f23 f24 f25 f26 f27 g20 g21 g22 g23 g24 g25)
      | (go_at_call 6; (with_reducible refine (C5.out _ _ _ HB3.out R23.out).mono ?_); rintro e w4 ⟨A4, c4, rfl, hc4, hd4, hb⟩; have HB4 := Lib.hid (HB3.out.trans (hb.mono HB3.out.size)); have X4 := Lib.hid (X3.out.after hb); have D34 := Lib.hid (D3.out.after hb); have D4 := Lib.hid hd4; have hsl4 := fun W => slice32 A4 l2 c4 m W (Nat.le_trans hml2 hc4); clear hc4; obtain ⟨f40, f41, f42, f43, f44, f45, f46, f47⟩ := X4.out; clear hb hd4 f30 f31 f32 f33 f34 f35 f36 f37 g30 g31 g32 g33 g34 g35)
      | (go_at_call 7; (with_reducible refine (C6.out _ HB4.out).mono ?_); rintro e w5 ⟨A5, c5, rfl, hr5, hb⟩; have HB5 := Lib.hid (below_alloc (HB4.out.trans (hb.mono HB4.out.size)) (Nat.le_refl _) (.cells #[.int .i64 p1, .int .u8 o1, .string mm1, .slice A5 k1 c5, .string xx1, .bool ll1] 35)); have X5 := Lib.hid ((X4.out.after hb).alloc (.cells #[.int .i64 p1, .int .u8 o1, .string mm1, .slice A5 k1 c5, .string xx1, .bool ll1] 35)); have R5 := Lib.hid (HK5.out.alloc hr5 (.cells #[.int .i64 p1, .int .u8 o1, .string mm1, .slice A5 k1 c5, .string xx1, .bool ll1] 35)); have N5 := Lib.hid (En.new p1 o1 mm1 A5 k1 c5 xx1 ll1 w5 35); have D35 := Lib.hid (rd_alloc (D34.out.after hb) (.cells #[.int .i64 p1, .int .u8 o1, .string mm1, .slice A5 k1 c5, .string xx1, .bool ll1] 35)); have D45 := Lib.hid (rd_alloc (D4.out.after hb) (.cells #[.int .i64 p1, .int .u8 o1, .string mm1, .slice A5 k1 c5, .string xx1, .bool ll1] 35)); obtain ⟨f50, f51, f52, f53, f54, f55, f56, f57⟩ := X5.out; clear hb hr5 f40 f41 f42 f43 f44 f45 f46 f47)
      | (go_at_call 7; (with_reducible refine (C7.out _ HB5.out).mono ?_); rintro e w6 ⟨A6, c6, rfl, hr6, hb⟩; have HB6 := Lib.hid (below_alloc (HB5.out.trans (hb.mono HB5.out.size)) (Nat.le_refl _) (.cells #[.int .i64 p2, .int .u8 o2, .string mm2, .slice A6 k2 c6, .string xx2, .bool ll2] 35)); have X6 := Lib.hid ((X5.out.after hb).alloc (.cells #[.int .i64 p2, .int .u8 o2, .string mm2, .slice A6 k2 c6, .string xx2, .bool ll2] 35)); have R56 := Lib.hid (HK5.out.alloc (HK5.out _ _ _ _ R5.out hb) (.cells #[.int .i64 p2, .int .u8 o2, .string mm2, .slice A6 k2 c6, .string xx2, .bool ll2] 35)); have R6 := Lib.hid (HK6.out.alloc hr6 (.cells #[.int .i64 p2, .int .u8 o2, .string mm2, .slice A6 k2 c6, .string xx2, .bool ll2] 35)); have N56 := Lib.hid ((N5.out.after hb).alloc (.cells #[.int .i64 p2, .int .u8 o2, .string mm2, .slice A6 k2 c6, .string xx2, .bool ll2] 35)); have D36 := Lib.hid (rd_alloc (D35.out.after hb) (.cells #[.int .i64 p2, .int .u8 o2, .string mm2, .slice A6 k2 c6, .string xx2, .bool ll2] 35)); have D46 := Lib.hid (rd_alloc (D45.out.after hb) (.cells #[.int .i64 p2, .int .u8 o2, .string mm2, .slice A6 k2 c6, .string xx2, .bool ll2] 35)); obtain ⟨f60, f61, f62, f63, f64, f65, f66, f67⟩ := X6.out; obtain ⟨g60, g61, g62, g63, g64, g65⟩ := N56.out; clear hb hr6 f50 f51 f52 f53 f54 f55 f56 f57)
      | (go_at_call 8; (with_reducible refine (C8.out _ _ _ _ _ HB6.out R56.out R6.out).mono ?_); rintro e w7 ⟨rfl, hb⟩; have HB7 := Lib.hid (HB6.out.trans (hb.mono HB6.out.size)); have HB7d : Hid (Below w.heap.size w w7.drew) := ⟨HB7.out.os, HB7.out.tape, HB7.out.output, HB7.out.size, HB7.out.block⟩; have X7 := Lib.hid (X6.out.after hb); have D37 := Lib.hid (D36.out.after hb); have D47 := Lib.hid (D46.out.after hb); obtain ⟨f70, f71, f72, f73, f74, f75, f76, f77⟩ := X7.out; clear hb f60 f61 f62 f63 f64 f65 f66 f67 g60 g61 g62 g63 g64 g65))
    (go_region_held3 (fun _ => True) (exact trivial) (first
          | (go_at_call 5; refine (C3.out w7.drew HB7d.out).mono ?_; rintro e w8 ⟨rfl, hb0⟩; have hb : Below w7.heap.size w7 w8 := ⟨hb0.os, hb0.tape, hb0.output, hb0.size, hb0.block⟩; have HB8 := Lib.hid (HB7.out.trans (hb.mono HB7.out.size)); have D38 := Lib.hid (D37.out.after hb); have D48 := Lib.hid (D47.out.after hb); clear hb0 hb)
          | (go_at_call 9; (with_reducible refine (C9.out _ _ _ _ _ D38.out D48.out).mono ?_); rintro e w9 ⟨rfl, hb⟩; have HB9 := Lib.hid (HB8.out.trans (hb.mono HB8.out.size)); clear hb)))
    all_goals
      go_wp2
      go_ret
      exact ⟨rfl, HB9.out⟩
end Go.Proofs.YtpjcgimgiegehaaGreatDoor

/- The walks of Same of the references of instr and of table, at entries that are the same, and at entries of different opcodes. -/
namespace Go.Proofs.YtpjcgimgiegehaaGreatDoor
open Go.RowKit

/-- The numbers of a row of operands. -/
def i3s (zs : List Nat) : List Value := zs.map fun (n : Nat) => Value.int .i64 (n : Int)
theorem Rd.op3 {w : World} {p : Nat → Prop} {A : Option Addr} {zs : List Nat} (h : Rd w p A (i3s zs)) {k : Nat} (hk : 3 * k + 2 < zs.length) :
    ∃ b o, A = some ⟨b, o, none⟩ ∧ w.cell? ⟨b, o + k * 3, none⟩ = some (.int .i64 ((zs.getD (k * 3) 0 : Nat) : Int)) ∧ w.cell? ⟨b, o + k * 3 + 1, none⟩ = some (.int .i64 ((zs.getD (k * 3 + 1) 0 : Nat) : Int)) ∧ w.cell? ⟨b, o + k * 3 + 2, none⟩ = some (.int .i64 ((zs.getD (k * 3 + 2) 0 : Nat) : Int)) := by
  have hne : i3s zs ≠ [] := fun e => by
    have : (i3s zs).length = 0 := by rw [e]; rfl
    simp [i3s] at this
    rw [this] at hk
    simp at hk
  obtain ⟨b, o, hA, _, hc⟩ := h.ex hne
  have key : ∀ j, j < zs.length → w.cell? ⟨b, o + j, none⟩ = some (.int .i64 ((zs.getD j 0 : Nat) : Int)) := fun j hj => by
    refine hc _ _ ?_
    simp [i3s, hj]
  refine ⟨b, o, hA, key _ (by omega), ?_, ?_⟩
  · rw [Nat.add_assoc]; exact key _ (by omega)
  · rw [Nat.add_assoc]; exact key _ (by omega)
theorem keep_alloc1 {w : World} {p : Addr} {u : Value} (O : Obj) (h : w.cell? p = some u) : (w.alloc O).cell? p = some u := (World.cell?_alloc_lt w O p (lt_of_cell h)).trans h
theorem seqS (s : ByteArray) : (s.toList == s.toList) = true := beq_self_eq_true _
theorem neqS (s : ByteArray) : (s.toList != s.toList) = false := by simp
set_option maxHeartbeats 4000000 in
theorem r7same (s : ByteArray) (zs : List Nat) (n : Nat) (A A' : Option Addr) (c c' : Nat) (w : World) (hn : zs.length = 3 * n) (hm : (n : Int) ≤ 1000) (h : Rd w (fun _ => True) A (i3s zs)) (h' : Rd w (fun _ => True) A' (i3s zs)) :
    Calls Tryz.prog 23 #[.agg #[.string s, .slice A n c], .agg #[.string s, .slice A' n c']] w fun e w' => e = .returned (.bool true) ∧ Below w.heap.size w w' := by
  have H := Lib.hid h
  have H' := Lib.hid h'
  have HN := Lib.hid hn
  have hs := seqS s
  have hs' := neqS s
  have hnn : ((n : Int) != (n : Int)) = false := by simp
  have HB : Hid (∀ m, Below w.heap.size w (((w.alloc (.cells #[.string s, .slice A n c] 26)).alloc (.cells #[.string s, .slice A' n c'] 26)).drewN m)) := fun m => (((Below.refl _ _).alloc (Nat.le_refl _) _).alloc (by simp) _).trans (below_of_drewN _ _ _)
  clear h h' hn
  go_enter Tryz.func23, Tryz.ntmps23
  go_wp2
  go_loopw [5] (fun v wr => ∃ k : Nat, v = .int .i64 (k : Int) ∧ k ≤ n ∧ ∃ m, wr = (((w.alloc (.cells #[.string s, .slice A n c] 26)).alloc (.cells #[.string s, .slice A' n c'] 26)).drewN m)) (fun v _ => n - (intOf v).toNat)
  case atStart => exact ⟨0, rfl, Nat.zero_le _, 0, rfl⟩
  case round =>
    obtain ⟨k, rfl, hk, m, rfl⟩ := hrel
    by_cases hlt : k < n
    · obtain ⟨b, o, rfl, c0, c1, c2⟩ := H.out.op3 (k := k) (by rw [HN.out]; omega)
      obtain ⟨b', o', rfl, d0, d1, d2⟩ := H'.out.op3 (k := k) (by rw [HN.out]; omega)
      obtain ⟨x, hx⟩ : ∃ x : Int, ((zs.getD (k * 3) 0 : Nat) : Int) = x := ⟨_, rfl⟩
      obtain ⟨y, hy⟩ : ∃ x : Int, ((zs.getD (k * 3 + 1) 0 : Nat) : Int) = x := ⟨_, rfl⟩
      obtain ⟨z, hz⟩ : ∃ x : Int, ((zs.getD (k * 3 + 2) 0 : Nat) : Int) = x := ⟨_, rfl⟩
      rw [hx] at c0 d0
      rw [hy] at c1 d1
      rw [hz] at c2 d2
      have c0 := keep_alloc1 (.cells #[.string s, .slice (some ⟨b', o', none⟩) n c'] 26) (keep_alloc1 (.cells #[.string s, .slice (some ⟨b, o, none⟩) n c] 26) c0)
      have c1 := keep_alloc1 (.cells #[.string s, .slice (some ⟨b', o', none⟩) n c'] 26) (keep_alloc1 (.cells #[.string s, .slice (some ⟨b, o, none⟩) n c] 26) c1)
      have c2 := keep_alloc1 (.cells #[.string s, .slice (some ⟨b', o', none⟩) n c'] 26) (keep_alloc1 (.cells #[.string s, .slice (some ⟨b, o, none⟩) n c] 26) c2)
      have d0 := keep_alloc1 (.cells #[.string s, .slice (some ⟨b', o', none⟩) n c'] 26) (keep_alloc1 (.cells #[.string s, .slice (some ⟨b, o, none⟩) n c] 26) d0)
      have d1 := keep_alloc1 (.cells #[.string s, .slice (some ⟨b', o', none⟩) n c'] 26) (keep_alloc1 (.cells #[.string s, .slice (some ⟨b, o, none⟩) n c] 26) d1)
      have d2 := keep_alloc1 (.cells #[.string s, .slice (some ⟨b', o', none⟩) n c'] 26) (keep_alloc1 (.cells #[.string s, .slice (some ⟨b, o, none⟩) n c] 26) d2)
      have ex : (x == x) = true := beq_self_eq_true _
      have ey : (y == y) = true := beq_self_eq_true _
      have ez : (z == z) = true := beq_self_eq_true _
      clear hx hy hz
      go_wp2
      go_region
      all_goals go_wp2
      all_goals go_roundw
      case rel => exact ⟨k + 1, by go_num, by omega, _, rfl⟩
      case measure => simp [intOf]; omega
    · obtain rfl : k = n := by omega
      go_wp2
      go_ret
      exact ⟨rfl, HB.out _⟩
set_option maxHeartbeats 1000000 in
theorem r9same_eq (pg o : Int) (nm ex : ByteArray) (al : Bool) (zs : List Nat) (n : Nat) (A A' : Option Addr) (c c' : Nat) (w : World) (hn : zs.length = 3 * n) (hm : (n : Int) ≤ 1000) (h : Rd w (fun _ => True) A (i3s zs)) (h' : Rd w (fun _ => True) A' (i3s zs)) :
    Calls Tryz.prog 8 #[.agg #[.int .i64 pg, .int .u8 o, .string nm, .slice A n c, .string ex, .bool al], .agg #[.int .i64 pg, .int .u8 o, .string nm, .slice A' n c', .string ex, .bool al]] w fun e w' => e = .returned (.bool true) ∧ Below w.heap.size w w' := by
  have C : Hid (∀ W, Below w.heap.size w W → Calls Tryz.prog 23 #[.agg #[.string nm, .slice A n c], .agg #[.string nm, .slice A' n c']] W fun e w' => e = .returned (.bool true) ∧ Below W.heap.size W w') := fun W hb => r7same nm zs n A A' c c' W hn hm (h.after hb) (h'.after hb)
  have e1 : (pg == pg) = true := beq_self_eq_true _
  have e2 : (o == o) = true := beq_self_eq_true _
  have e3 := seqS nm
  have e4 := seqS ex
  have e5 : (al == al) = true := beq_self_eq_true _
  have HA : Hid (Below w.heap.size w ((w.alloc (.cells #[.int .i64 pg, .int .u8 o, .string nm, .slice A n c, .string ex, .bool al] 35)).alloc (.cells #[.int .i64 pg, .int .u8 o, .string nm, .slice A' n c', .string ex, .bool al] 35))) := ((Below.refl _ _).alloc (Nat.le_refl _) _).alloc (by simp) _
  clear h h' hn hm
  go_enter Tryz.func8, Tryz.ntmps8
  go_wp2_with (go_at_call 23; refine (C.out _ HA.out).mono ?_; rintro e w1 ⟨rfl, hb⟩; have HB := Lib.hid (HA.out.trans (hb.mono HA.out.size)); clear hb)
  go_ret
  exact ⟨rfl, HB.out⟩
set_option maxHeartbeats 1000000 in
theorem r9same_ne (pg o pg' o' : Int) (nm ex nm' ex' : ByteArray) (al al' : Bool) (n n' : Nat) (A A' : Option Addr) (c c' : Nat) (w : World) (hne : ¬ (pg = pg' ∧ o = o')) :
    Calls Tryz.prog 8 #[.agg #[.int .i64 pg, .int .u8 o, .string nm, .slice A n c, .string ex, .bool al], .agg #[.int .i64 pg', .int .u8 o', .string nm', .slice A' n' c', .string ex', .bool al']] w fun e w' => e = .returned (.bool false) ∧ Below w.heap.size w w' := by
  have HA : Hid (Below w.heap.size w ((w.alloc (.cells #[.int .i64 pg, .int .u8 o, .string nm, .slice A n c, .string ex, .bool al] 35)).alloc (.cells #[.int .i64 pg', .int .u8 o', .string nm', .slice A' n' c', .string ex', .bool al'] 35))) := ((Below.refl _ _).alloc (Nat.le_refl _) _).alloc (by simp) _
  by_cases hp : pg = pg'
  · have e1 : (pg == pg') = true := by simpa using hp
    have e2 : (o == o') = false := by
      simp only [beq_eq_false_iff_ne]
      exact fun e => hne ⟨hp, e⟩
    clear hp hne
    go_enter Tryz.func8, Tryz.ntmps8
    go_wp2
    go_ret
    exact ⟨rfl, HA.out⟩
  · have e1 : (pg == pg') = false := by simpa using hp
    clear hp hne
    go_enter Tryz.func8, Tryz.ntmps8
    go_wp2
    go_ret
    exact ⟨rfl, HA.out⟩
end Go.Proofs.YtpjcgimgiegehaaGreatDoor
