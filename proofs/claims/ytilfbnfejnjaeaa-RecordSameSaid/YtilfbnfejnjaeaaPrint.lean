/- The walk of Print of the package record. -/
import Derived.Test.YtilfbnfejnjaeaaBuild
import Derived.Test.YtilfbnfejnjaeaaTake
import Derived.Deep.RegionHeld3
import Derived.Deep.RegionLaw
namespace Go.Proofs.Ytilfbnfejnjaeaa
open Go.RowKit

/-- A record can be written. -/
def rightB (t a : Int) (n : Nat) : Bool := fits 0 255 [t, (n : Int)] && fits 0 65535 [a]
set_option maxHeartbeats 1000000 in
theorem right_any (t a : Int) (A : Option Addr) (n c : Nat) (w : World) :
    Calls Try.prog 47 #[.agg #[.int .i64 t, .int .i64 a, .slice A n c]] w fun e w' => e = .returned (.bool (rightB t a n)) ∧ Below w.heap.size w w' := by
  have C1 : Hid (∀ (W : World) (g : Nat), W.heap.size = g → Calls Try.prog 55 #[.int .i64 0, .int .i64 255, .slice (some ⟨g, 0, none⟩) 2 2] (W.alloc (.cells #[.int .i64 t, .int .i64 (n : Int)] 3)) fun e w' => e = .returned (.bool (fits 0 255 [t, (n : Int)])) ∧ W.alloc (.cells #[.int .i64 t, .int .i64 (n : Int)] 3) = w') := fun W g hg => by
    subst hg
    exact fits_any 0 255 _ [t, (n : Int)] 2 _ (fun _ => True) (by simp) (Rd.new W #[.int .i64 t, .int .i64 (n : Int)] 3 trivial)
  have C2 : Hid (∀ (W : World) (g : Nat), W.heap.size = g → Calls Try.prog 55 #[.int .i64 0, .int .i64 65535, .slice (some ⟨g, 0, none⟩) 1 1] (W.alloc (.cells #[.int .i64 a] 3)) fun e w' => e = .returned (.bool (fits 0 65535 [a])) ∧ W.alloc (.cells #[.int .i64 a] 3) = w') := fun W g hg => by
    subst hg
    exact fits_any 0 65535 _ [a] 1 _ (fun _ => True) (by simp) (Rd.new W #[.int .i64 a] 3 trivial)
  unfold rightB
  obtain ⟨f1, h1⟩ : ∃ f, fits 0 255 [t, (n : Int)] = f := ⟨_, rfl⟩
  obtain ⟨f2, h2⟩ : ∃ f, fits 0 65535 [a] = f := ⟨_, rfl⟩
  rw [h1] at C1
  rw [h2] at C2
  rw [h1, h2]
  clear h1 h2
  cases f1
  · go_enter Try.func47, Try.ntmps47
    go_wp2_with (go_at_call 55; refine (C1.out _ _ (by simp)).mono ?_; rintro e w' ⟨rfl, rfl⟩)
    go_ret
    exact ⟨rfl, ((Below.refl _ _).alloc (Nat.le_refl _) _).alloc (by simp) _⟩
  · go_enter Try.func47, Try.ntmps47
    go_wp2_with (first
      | (go_at_call 55; (with_reducible refine (C1.out _ _ (by simp)).mono ?_); rintro e w' ⟨rfl, rfl⟩)
      | (go_at_call 55; refine (C2.out _ _ (by simp)).mono ?_; rintro e w' ⟨rfl, rfl⟩))
    go_ret
    exact ⟨ret_bool (by simp), (((Below.refl _ _).alloc (Nat.le_refl _) _).alloc (by simp) _).alloc (by simp; omega) _⟩

theorem below_box' {w w1 : World} {o : Obj} (h : Below (w.alloc o).heap.size (w.alloc o) w1) : Below w.heap.size w w1 := ((Below.refl _ _).alloc (Nat.le_refl _) o).trans (h.mono (by simp))
theorem box_three' {w w1 : World} {x y z : Value} {t : TypeId} (h : Below (w.alloc (.cells #[x, y, z] t)).heap.size (w.alloc (.cells #[x, y, z] t)) w1) :
    w1.cell? ⟨w.heap.size, 0, none⟩ = some x ∧ w1.cell? ⟨w.heap.size, 1, none⟩ = some y ∧ w1.cell? ⟨w.heap.size, 2, none⟩ = some z ∧
    w1.frozen? ⟨w.heap.size, 0, none⟩ = false ∧ w1.frozen? ⟨w.heap.size, 1, none⟩ = false ∧ w1.frozen? ⟨w.heap.size, 2, none⟩ = false := by
  have hb : w1.heap[w.heap.size]? = some (.cells #[x, y, z] t (0, 0)) := (h.block _ (by simp)).trans (heap_alloc_new w _)
  refine ⟨?_, ?_, ?_, ?_, ?_, ?_⟩ <;> simp [World.cell?, World.frozen?, hb]
/-- The first four bytes of a line. -/
def headB (n : Nat) (a t : Int) : List UInt8 := [lowB (n : Int), lowB (a / 256), lowB a, lowB t]
/-- Each byte as two digits. -/
def hexes (l : List UInt8) : List UInt8 := l.flatMap fun c => hexS (c.toNat : Int) 2
theorem hexes_append (l m : List UInt8) : hexes (l ++ m) = hexes l ++ hexes m := by simp [hexes]
theorem hexes_one (c : UInt8) : hexes [c] = hexS (c.toNat : Int) 2 := by simp [hexes]
theorem hexes_length (l : List UInt8) : (hexes l).length = 2 * l.length := by
  induction l with
  | nil => rfl
  | cons c l ih =>
    have e : hexes (c :: l) = hexS (c.toNat : Int) 2 ++ hexes l := by simp [hexes]
    rw [e, List.length_append, ih, hexS_length, List.length_cons]
    omega
/-- The line of some bytes. -/
def lineOf (b : List UInt8) : List UInt8 := 58 :: hexes (b ++ [UInt8.ofNat (ck b)])
set_option maxHeartbeats 1000000 in
theorem print_no (t a : Int) (A : Option Addr) (n c : Nat) (w : World) (h : rightB t a n = false) :
    Calls Try.prog 21 #[.agg #[.int .i64 t, .int .i64 a, .slice A n c]] w fun e w' => e = .returned (.tuple #[.string ⟨#[]⟩, .bool false]) ∧ Below w.heap.size w w' := by
  have C : Hid (∀ W : World, Calls Try.prog 47 #[.agg #[.int .i64 t, .int .i64 a, .slice A n c]] W fun e w' => e = .returned (.bool false) ∧ Below W.heap.size W w') := fun W => by
    have := right_any t a A n c W
    rw [h] at this
    exact this
  clear h
  go_enter Try.func21, Try.ntmps21
  go_wp2_with (go_at_call 47; refine (C.out _).mono ?_; rintro e w1 ⟨rfl, hb⟩; have HB := Lib.hid hb; clear hb)
  go_ret2
  exact ⟨rfl, ((Below.refl _ _).alloc (Nat.le_refl _) _).trans (HB.out.mono (by simp))⟩
theorem low_four (n : Nat) (a t : Int) (W : World) (g : Nat) (hg : W.heap.size = g) :
    Calls Try.prog 48 #[.slice (some ⟨g, 0, none⟩) 4 4] (W.alloc (.cells #[.int .i64 (n : Int), .int .i64 (a / 256), .int .i64 a, .int .i64 t] 3)).drew fun e w' =>
      ∃ A1 c1, e = .returned (.slice A1 4 c1) ∧ w'.ownsRow g 5 1 (.slice A1 4 c1) 4 (bs (headB n a t)) ∧ Below g W w' := by
  subst hg
  have hr : Rd (W.alloc (.cells #[.int .i64 (n : Int), .int .i64 (a / 256), .int .i64 a, .int .i64 t] 3)).drew (fun _ => True) (some ⟨W.heap.size, 0, none⟩) (ils [(n : Int), a / 256, a, t]) := (Rd.new W #[.int .i64 (n : Int), .int .i64 (a / 256), .int .i64 a, .int .i64 t] 3 trivial).keep fun _ _ _ => rfl
  refine (low_any _ [(n : Int), a / 256, a, t] 4 _ _ (by simp) hr).mono fun e w' ⟨v, he, ho, hb⟩ => ?_
  obtain ⟨A1, c1, rfl, _⟩ := own_form ho
  have h1 : Below W.heap.size W (W.alloc (.cells #[.int .i64 (n : Int), .int .i64 (a / 256), .int .i64 a, .int .i64 t] 3)).drew := ((Below.refl _ _).alloc (Nat.le_refl _) _).drew
  refine ⟨A1, c1, he, ?_, h1.trans (hb.mono h1.size)⟩
  rcases ho with ⟨hl, hr2⟩
  refine ⟨hl, ?_⟩
  rcases hr2 with h2 | ⟨g, cap, cur, h2, h3, h4⟩
  · exact .inl h2
  · exact .inr ⟨g, cap, cur, h2, Nat.le_trans h1.size h3, h4⟩
theorem sum_four {X : List UInt8} {n c : Nat} {A : Option Addr} {w : World} {p : Nat → Prop} (hl : X.length = 4 + n) (hn : (n : Int) ≤ 1000) (h : Rd w p A (bs X)) :
    Calls Try.prog 17 #[.slice A (4 + n) c] w fun e w' => e = .returned (.int .u8 (ck X : Int)) ∧ Below w.heap.size w w' := by
  rw [← hl]
  exact sum_any A X c w p (by omega) h
theorem print_room {Y : List UInt8} {n k : Nat} {m : Int} (hl : Y.length = 4 + n + 1) (hn : (n : Int) ≤ 255) (hk : (k : Int) < 4 + n + 1) : (((58 :: hexes (Y.take k)).length : Nat) : Int) + (((⟨(hexS m 2).toArray⟩ : ByteArray).size : Nat) : Int) ≤ 140737488355328 := by
  have e : (⟨(hexS m 2).toArray⟩ : ByteArray).size = 2 := by
    rw [← str_len]
    exact hexS_length m 2
  rw [e, List.length_cons, hexes_length, List.length_take]
  omega
theorem print_below {w w1 W w12 : World} {N : Nat} (h1 : Below w.heap.size w w1) (h2 : Below w1.heap.size w1 W) (h3 : Below N W w12) (hN : w1.heap.size ≤ N) : Below w.heap.size w w12 :=
  h1.trans ((h2.trans (h3.mono hN)).mono h1.size)
theorem print_round {w1 W w10 w11 : World} {N k : Nat} {v9 : Value} {A8 : Option Addr} {Y : List UInt8} {y : UInt8} (h10 : Below W.heap.size W w10) (h11 : Wrote w10 N N v9 ((58 :: hexes (Y.take k)) ++ (⟨(hexS (y.toNat : Int) 2).toArray⟩ : ByteArray).data.toList) w11)
    (hr : Rd W (fun q => q ≠ N ∧ some q ≠ v9.ownBlock) A8 (bs Y)) (hw : Below w1.heap.size w1 W) (hN : N ≤ W.heap.size) (hN1 : w1.heap.size ≤ N) (hy : Y[k]? = some y) :
    Hid (∃ v', Bld w11 N N (.pointer (some ⟨N, 0, none⟩)) v' (58 :: hexes (Y.take (k + 1))) ∧ Rd w11 (fun q => q ≠ N ∧ some q ≠ v'.ownBlock) A8 (bs Y) ∧ Below w1.heap.size w1 w11 ∧ N ≤ w11.heap.size) := by
  obtain ⟨v', hb, hf⟩ := h11
  have e : (58 :: hexes (Y.take k)) ++ (⟨(hexS (y.toNat : Int) 2).toArray⟩ : ByteArray).data.toList = 58 :: hexes (Y.take (k + 1)) := by
    rw [take_at hy, hexes_append, hexes_one]
    rfl
  rw [e] at hb
  exact ⟨v', hb, hf.rd (hr.after h10), (hw.trans (h10.mono hw.size)).trans (hf.bel.mono hN1), Nat.le_trans (Nat.le_trans hN h10.size) hf.bel.size⟩
theorem own_apart {a b : Value} {N M : Nat} (h1 : ∀ q, a.ownBlock = some q → q < N) (h2 : ∀ q, b.ownBlock = some q → N ≤ q ∧ q < M) : b.ownBlock = none ∨ b.ownBlock ≠ a.ownBlock := by
  cases hq : b.ownBlock with
  | none => exact .inl rfl
  | some q =>
    refine .inr fun e => ?_
    have h3 := h1 q e.symm
    have h4 := (h2 q hq).1
    omega
theorem own_rd {w : World} {base n c : Nat} {e : TypeId} {size : Nat} {A : Option Addr} {xs : List Value} (h : w.ownsRow base e size (.slice A n c) n xs) : Rd w (fun q => (Value.slice A n c).ownBlock = some q) A xs := fun hx => by
  obtain ⟨ad, e1, _, h3⟩ := Rd.of_own (p := fun _ => True) h (fun _ _ _ => trivial) hx
  subst e1
  exact ⟨ad, rfl, rfl, h3⟩
theorem print_start {w1 w5 w6 w7 w8 : World} {X : List UInt8} {n c5 c8 : Nat} {A5 A8 : Option Addr} {ob : Obj}
    (h1 : Lib.BuilderAt 89 5 w5.heap.size w5.heap.size (.pointer (some ⟨w5.heap.size, 0, none⟩)) ([] ++ [.int .u8 58]) w6) (h2 : Below w5.heap.size w5 w6) (h7 : Below w6.heap.size w6 w7)
    (ho : w5.ownsRow w1.heap.size 5 1 (.slice A5 (4 + n) c5) (4 + n) (bs X)) (hN : w1.heap.size ≤ w5.heap.size) (hw5 : Below w1.heap.size w1 w5)
    (ho8 : w8.ownsRow w1.heap.size 5 1 (.slice A8 (4 + n + 1) c8) (4 + n + 1) (bs X ++ [.int .u8 (ck X : Int)])) (hg : (w7.alloc ob).grownBy w8 (Value.slice A5 (4 + n) c5).ownBlock)
    (ha : (Value.slice A8 (4 + n + 1) c8).ownBlock = (Value.slice A5 (4 + n) c5).ownBlock ∨ (Value.slice A8 (4 + n + 1) c8).ownBlock = some (w7.alloc ob).heap.size) :
    ∃ v6, Bld w8 w5.heap.size w5.heap.size (.pointer (some ⟨w5.heap.size, 0, none⟩)) v6 (58 :: hexes ((X ++ [UInt8.ofNat (ck X)]).take 0)) ∧
      Rd w8 (fun q => q ≠ w5.heap.size ∧ some q ≠ v6.ownBlock) A8 (bs (X ++ [UInt8.ofNat (ck X)])) ∧ Below w1.heap.size w1 w8 ∧ w5.heap.size ≤ w8.heap.size := by
  have h1' : Lib.BuilderAt 89 5 w5.heap.size w5.heap.size (.pointer (some ⟨w5.heap.size, 0, none⟩)) (bs [58]) w6 := h1
  obtain ⟨v6, hb6⟩ := Bld.of h1'
  have hs2 := h2.size
  have hs7 := h7.size
  have hs8 := hg.size
  have e8 : (w7.alloc ob).heap.size = w7.heap.size + 1 := World.size_alloc _ _
  have hb7 : Bld (w7.alloc ob) w5.heap.size w5.heap.size (.pointer (some ⟨w5.heap.size, 0, none⟩)) v6 [58] := (hb6.after h7).after ((Below.refl _ _).alloc (Nat.le_refl _) _)
  have hlow : ∀ q, (Value.slice A5 (4 + n) c5).ownBlock = some q → q < w5.heap.size := fun q hq => (ho.lt q hq).2
  have hv6 : ∀ q, v6.ownBlock = some q → w5.heap.size ≤ q ∧ q < w6.heap.size := fun q hq => hb6.own.lt q hq
  refine ⟨v6, hb7.grown hg (fun e => by have := hlow _ e.symm; omega) (own_apart hlow hv6), ?_, ?_, by omega⟩
  · have ho9 : w8.ownsRow w1.heap.size 5 1 (.slice A8 (4 + n + 1) c8) (4 + n + 1) (bs (X ++ [UInt8.ofNat (ck X)])) := own_snoc ho8 (by rw [UInt8.toNat_ofNat']; have := ck_lt X; omega)
    refine (own_rd ho9).of_imp fun q hq => ?_
    rcases ha with h | h
    · rw [h] at hq
      have h3 := hlow q hq
      refine ⟨by omega, fun e => ?_⟩
      have h4 := (hv6 q e.symm).1
      omega
    · rw [h] at hq
      have h3 : (w7.alloc ob).heap.size = q := Option.some.inj hq
      refine ⟨by omega, fun e => ?_⟩
      have h4 := (hv6 q e.symm).2
      omega
  · exact (((hw5.trans (h2.mono hN)).trans (h7.mono (by omega))).alloc (by omega) ob).grown hg (by omega) (fun q hq => (ho.lt q hq).1)
set_option maxHeartbeats 4000000 in
set_option maxRecDepth 100000 in
theorem print_yes (t a : Int) (A : Option Addr) (d : List UInt8) (c : Nat) (p : Nat → Prop) (w : World) (h : rightB t a d.length = true) (hd : Rd w p A (bs d)) :
    Calls Try.prog 21 #[.agg #[.int .i64 t, .int .i64 a, .slice A d.length c]] w fun e w' => e = .returned (.tuple #[.string ⟨(lineOf (headB d.length a t ++ d)).toArray⟩, .bool true]) ∧ Below w.heap.size w w' := by
  have C : Hid (∀ W : World, Calls Try.prog 47 #[.agg #[.int .i64 t, .int .i64 a, .slice A d.length c]] W fun e w' => e = .returned (.bool true) ∧ Below W.heap.size W w') := fun W => by
    have := right_any t a A d.length c W
    rw [h] at this
    exact this
  have hn : (d.length : Int) ≤ 255 := by
    unfold rightB fits at h
    simp at h
    omega
  have HD := Lib.hid hd
  have LOW : Hid (∀ (W : World) (g : Nat), W.heap.size = g → Calls Try.prog 48 #[.slice (some ⟨g, 0, none⟩) 4 4] (W.alloc (.cells #[.int .i64 (d.length : Int), .int .i64 (a / 256), .int .i64 a, .int .i64 t] 3)).drew fun e w' =>
      ∃ A1 c1, e = .returned (.slice A1 4 c1) ∧ w'.ownsRow g 5 1 (.slice A1 4 c1) 4 (bs (headB d.length a t)) ∧ Below g W w') := fun W g hg => low_four d.length a t W g hg
  obtain ⟨n, hnn⟩ : ∃ n, d.length = n := ⟨_, rfl⟩
  rw [hnn] at hn C LOW
  rw [hnn]
  have HN := Lib.hid hnn
  clear h hd hnn
  go_enter Try.func21, Try.ntmps21
  go_wp2_with (go_at_call 47; refine (C.out _).mono ?_; rintro e w1 ⟨rfl, hb⟩; obtain ⟨x0, x1, x2, f0, f1, f2⟩ := box_three' hb; have HB := Lib.hid (below_box' hb); clear hb)
  have hlt1 := lt_of_cell x0
  go_region_held3 (fun w' => w'.cell? ⟨w.heap.size, 0, none⟩ = some (.int .i64 t) ∧ w'.cell? ⟨w.heap.size, 1, none⟩ = some (.int .i64 a) ∧ w'.cell? ⟨w.heap.size, 2, none⟩ = some (.slice A n c)) (go_keep)
    (first
      | (go_at_call 48; refine (LOW.out _ _ rfl).mono ?_; rintro e w4 ⟨A1, c1, rfl, ho, hb⟩; have HO4 := Lib.hid ho; have HB4 := Lib.hid hb; have q0 : w4.cell? ⟨w.heap.size, 0, none⟩ = some (.int .i64 t) := (hb.cell (p := ⟨w.heap.size, 0, none⟩) hlt1).trans x0; have q1 : w4.cell? ⟨w.heap.size, 1, none⟩ = some (.int .i64 a) := (hb.cell (p := ⟨w.heap.size, 1, none⟩) hlt1).trans x1; have q2 : w4.cell? ⟨w.heap.size, 2, none⟩ = some (.slice A n c) := (hb.cell (p := ⟨w.heap.size, 2, none⟩) hlt1).trans x2; clear ho hb)
      | (refine step_app el_bytes rfl (.tmp 22) (.tmp 24) rfl w1.heap.size _ 4 _ p A n c (bs d) rfl rfl HO4.out (by rw [bs_length, HN.out]; omega) ((HD.out.after HB.out).after HB4.out) (bs_one _) (by simp only [maxLen]; omega) (by omega) HB4.out.size ?_; intro v5 w5 hown5 hg5 hat5 hz5; obtain ⟨A5, c5, rfl, _⟩ := own_form hown5; have HO5 := Lib.hid hown5; have HB5 := Lib.hid (HB4.out.grown hg5 HB4.out.size (fun q hq => (HO4.out.lt q hq).1)); have q3 : w5.cell? ⟨w.heap.size, 0, none⟩ = some (.int .i64 t) := (HB5.out.cell (p := ⟨w.heap.size, 0, none⟩) hlt1).trans x0; have q4 : w5.cell? ⟨w.heap.size, 1, none⟩ = some (.int .i64 a) := (HB5.out.cell (p := ⟨w.heap.size, 1, none⟩) hlt1).trans x1; have q5 : w5.cell? ⟨w.heap.size, 2, none⟩ = some (.slice A n c) := (HB5.out.cell (p := ⟨w.heap.size, 2, none⟩) hlt1).trans x2; clear hown5 hg5 hat5 hz5))
  have WB := Lib.hid (Try.Builder_WriteByte w5.heap.size w5.heap.size [] 58 _ (Bld.fresh w5) (by simp) (by simp))
  have HN1 : Hid (w1.heap.size ≤ w5.heap.size) := HB5.out.size
  have HX5 : Hid (w5.ownsRow w1.heap.size 5 1 (.slice A5 (4 + n) c5) (4 + n) (bs (headB n a t ++ d))) := by
    have := HO5.out
    rw [← bs_append] at this
    exact this
  have hXl : (headB n a t ++ d).length = 4 + n := by rw [List.length_append, HN.out]; rfl
  obtain ⟨X, hX⟩ : ∃ X, headB n a t ++ d = X := ⟨_, rfl⟩
  rw [hX] at HX5 hXl
  have HX := Lib.hid hX
  have HXL := Lib.hid hXl
  clear hX hXl x0 x1 x2 f0 f1 f2 q0 q1 q2 q3 q4 q5
  go_wp2_with (first
    | (go_at_call 49; refine WB.out.mono ?_; rintro e w6 ⟨rfl, h1, h2⟩; have H1 := Lib.hid h1; have H2 := Lib.hid (((Below.refl _ _).alloc (Nat.le_refl _) _).trans h2); have HO6 := Lib.hid (own_below HX5.out H2.out (Nat.le_refl _)); clear h1 h2)
    | (go_at_call 17; refine (sum_four (p := fun _ => True) HXL.out (by omega) (Rd.of_own HO6.out (fun _ _ _ => trivial))).mono ?_; rintro e w7 ⟨rfl, hb⟩; have H7 := Lib.hid hb; have HO7 := Lib.hid (own_over HO6.out hb); clear hb)
    | (at_builtin; go_must (refine wpList_app el_bytes rfl (.tmp 27) (.tmp 30) rfl w1.heap.size _ (4 + n) _ (fun _ => True) _ 1 1 [.int .u8 (ck X : Int)] rfl rfl (HO7.out.alloc _) rfl (Rd.new _ _ _ trivial) (by intro u hu; simp at hu; subst hu; rfl) (by simp only [maxLen]; omega) (by omega) (by have := HN1.out; have := H2.out.size; have := H7.out.size; simp; omega) ?_; intro v8 w8 hown8 hg8 hat8 hz8; obtain ⟨A8, c8, rfl, _⟩ := own_form hown8; have HP8 := Lib.hid (print_start H1.out H2.out H7.out HX5.out HN1.out HB5.out hown8 hg8 hat8); clear hown8 hg8 hat8 hz8)))
  obtain ⟨v6, hB8, hX8, hW8⟩ := HP8.out
  have HB8 := Lib.hid hB8
  have HX8 := Lib.hid hX8
  have HW8 := Lib.hid hW8
  obtain ⟨Y, hY⟩ : ∃ Y, X ++ [UInt8.ofNat (ck X)] = Y := ⟨_, rfl⟩
  rw [hY] at HX8
  have HY := Lib.hid hY
  have HYL : Hid (Y.length = 4 + n + 1) := by
    show _ = _
    rw [← hY, List.length_append, HXL.out]
    rfl
  clear hB8 hX8 hW8 hY
  go_loopw [33] (fun v W => ∃ k : Nat, (k : Int) ≤ 4 + n + 1 ∧ v = .int .i64 k ∧ Hid (∃ v', Bld W w5.heap.size w5.heap.size (.pointer (some ⟨w5.heap.size, 0, none⟩)) v' (58 :: hexes (Y.take k)) ∧ Rd W (fun q => q ≠ w5.heap.size ∧ some q ≠ v'.ownBlock) A8 (bs Y) ∧ Below w1.heap.size w1 W ∧ w5.heap.size ≤ W.heap.size)) (fun v _ => 4 + n + 1 - (intOf v).toNat)
  case atStart => exact ⟨0, by omega, rfl, v6, HB8.out, HX8.out, HW8.out.1, HW8.out.2⟩
  case round =>
    obtain ⟨k, hk, rfl, hP⟩ := hrel
    obtain ⟨v9, hB9, hX9, hW9, hN9⟩ := hP.out
    have HB9 := Lib.hid hB9
    have HX9 := Lib.hid hX9
    have HW9 := Lib.hid hW9
    have HN9 := Lib.hid hN9
    clear hB9 hX9 hW9 hN9 hP
    by_cases hlt : (k : Int) < 4 + n + 1
    · obtain ⟨b9, o9, y, rfl, _, hc, hz⟩ := HX9.out.byteAt (k := k) (by rw [HYL.out]; omega)
      have HZ := Lib.hid hz
      have h255 := byte_le y
      clear hz
      go_wp2_with (first
        | (go_at_call 25; refine (hex_any (y.toNat : Int) 2 (by decide) _).mono ?_; rintro e w10 ⟨rfl, hb⟩; have H10 := Lib.hid hb; clear hb)
        | (go_at_call 50; go_must (refine (wstr_any w5.heap.size w5.heap.size _ v9 _ ⟨(hexS (y.toNat : Int) 2).toArray⟩ w10 (HB9.out.after H10.out) (print_room HYL.out hn (by omega)) (Nat.le_trans HN9.out H10.out.size)).mono ?_; rintro e w11 ⟨rfl, hw⟩; have H11 := Lib.hid hw; clear hw)))
      go_roundw
      case rel => exact ⟨k + 1, by omega, by go_num, print_round H10.out H11.out HX9.out HW9.out HN9.out HN1.out HZ.out⟩
      case measure => simp [intOf]; omega
    · have HE : Hid (58 :: hexes (Y.take k) = lineOf X) := by
        show _ = _
        rw [List.take_of_length_le (by rw [HYL.out]; omega), ← HY.out]
        rfl
      have SB := Lib.hid (HB9.out.string HN9.out)
      go_wp2_with (go_at_call 51; refine SB.out.mono ?_; rintro e w12 ⟨rfl, hb⟩; have H12 := Lib.hid hb; clear hb)
      go_ret2
      exact ⟨by rw [HX.out, ← HE.out]; rfl, print_below HB.out HW9.out H12.out HN1.out⟩
end Go.Proofs.Ytilfbnfejnjaeaa
