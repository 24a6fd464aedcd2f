/- The walk of the statement RecordSame. -/
import Derived.Test.YtilfbnfejnjaeaaIncr3
import Derived.Test.YtilfbnfejnjaeaaLawSplits2
namespace Go.Proofs.Ytilfbnfejnjaeaa
open Go.RowKit Go.Shelf

theorem below_two {w w1 : World} {o o' : Obj} (h : Below ((w.alloc o).alloc o').heap.size ((w.alloc o).alloc o') w1) : Below w.heap.size w w1 := below_box (below_box h)

set_option maxHeartbeats 1000000 in
theorem rs_long (t a : Int) (A : Option Addr) (n c : Nat) (t' a' : Int) (A' : Option Addr) (n' c' : Nat) (w : World) (h : 255 < (n : Int) ∨ ((n : Int) ≤ 255 ∧ 255 < (n' : Int))) :
    Calls Try.prog 8 #[.agg #[.int .i64 t, .int .i64 a, .slice A n c], .agg #[.int .i64 t', .int .i64 a', .slice A' n' c']] w fun e w' => e = .returned (.bool true) ∧ Below w.heap.size w w' := by
  have C : Hid (∀ W : World, Calls Try.prog 13 #[] W fun e w' => e = .returned (.bool true) ∧ Below W.heap.size W w') := fun W => alive3_any W
  rcases h with h | ⟨h, h'⟩
  all_goals
    go_enter Try.func8, Try.ntmps8
    go_wp2_with (go_at_call 13; refine (C.out _).mono ?_; rintro e w1 ⟨rfl, hb⟩; have HB := Lib.hid (below_two hb); clear hb)
    go_ret
    exact ⟨rfl, HB.out⟩

/-- The cells of the boxes of the two records. -/
def Six (g h : Nat) (x y z x' y' z' : Value) (w' : World) : Prop :=
  w'.cell? ⟨g, 0, none⟩ = some x ∧ w'.cell? ⟨g, 1, none⟩ = some y ∧ w'.cell? ⟨g, 2, none⟩ = some z ∧ w'.cell? ⟨h, 0, none⟩ = some x' ∧ w'.cell? ⟨h, 1, none⟩ = some y' ∧ w'.cell? ⟨h, 2, none⟩ = some z'
theorem Six.after {g h : Nat} {x y z x' y' z' : Value} {W w' : World} (H : Six g h x y z x' y' z' W) (hb : Below W.heap.size W w') : Six g h x y z x' y' z' w' := by
  obtain ⟨h1, h2, h3, h4, h5, h6⟩ := H
  exact ⟨(hb.cell (lt_of_cell h1)).trans h1, (hb.cell (lt_of_cell h2)).trans h2, (hb.cell (lt_of_cell h3)).trans h3, (hb.cell (lt_of_cell h4)).trans h4, (hb.cell (lt_of_cell h5)).trans h5, (hb.cell (lt_of_cell h6)).trans h6⟩
theorem Six.new (w : World) (x y z x' y' z' : Value) (t t' : TypeId) : Six w.heap.size (w.heap.size + 1) x y z x' y' z' ((w.alloc (.cells #[x, y, z] t)).alloc (.cells #[x', y', z'] t')) := by
  obtain ⟨a0, a1, a2, _⟩ := box_three (Below.refl _ (w.alloc (.cells #[x, y, z] t)))
  obtain ⟨b0, b1, b2, _⟩ := box_three (Below.refl _ ((w.alloc (.cells #[x, y, z] t)).alloc (.cells #[x', y', z'] t')))
  rw [World.size_alloc] at b0 b1 b2
  exact ⟨keep_alloc0 _ a0, keep_alloc0 _ a1, keep_alloc0 _ a2, b0, b1, b2⟩
/-- What is kept behind the loops: the cells; what was there as the data was divided. -/
theorem pst {g h : Nat} {x y z x' y' z' : Value} {w2 W w' : World} (H : Six g h x y z x' y' z' W ∧ Below w2.heap.size w2 W) (hb : Below W.heap.size W w') : Six g h x y z x' y' z' w' ∧ Below w2.heap.size w2 w' :=
  ⟨H.1.after hb, H.2.trans (hb.mono H.2.size)⟩
theorem own_lit3 (w : World) (o o' : Obj) : (((w.alloc o).alloc o').alloc (.cells #[] 5)).ownsRow (w.heap.size + 1 + 1) 5 1 (.slice (some ⟨w.heap.size + 1 + 1, 0, none⟩) 0 0) 0 [] := by
  have h := World.ownsRow_lit (base := w.heap.size + 1 + 1) (e := 5) (size := 1) ((w.alloc o).alloc o') #[] 0 (by simp) (by decide) rfl
  simpa using h
theorem own_zero {w2 : World} {base : Nat} {A5 : Option Addr} {c5 n : Nat} {xs : List Value} (h : w2.ownsRow base 5 1 (.slice A5 (0 + n) c5) (0 + n) ([] ++ xs)) : w2.ownsRow base 5 1 (.slice A5 n c5) n xs := by
  rw [Nat.zero_add, List.nil_append] at h
  exact h
theorem below_lit3 {w w2 : World} {o o' : Obj} (hg : (((w.alloc o).alloc o').alloc (.cells #[] 5)).grownBy w2 (Value.slice (some ⟨w.heap.size + 1 + 1, 0, none⟩) 0 0).ownBlock) : Below ((w.alloc o).alloc o').heap.size ((w.alloc o).alloc o') w2 :=
  ((Below.refl _ _).alloc (Nat.le_refl _) _).grown hg (by simp) fun j hj => by
    have e : w.heap.size + 1 + 1 = j := Option.some.inj hj
    simp
    omega
/-- What Fits of the reference answers of one number. -/
abbrev RFitsIs (lo hi z : Int) (x : Bool) : Prop := ∀ (W : World) (g : Nat), W.heap.size = g → Calls Try.prog 29 #[.int .i64 lo, .int .i64 hi, .slice (some ⟨g, 0, none⟩) 1 1] (W.alloc (.cells #[.int .i64 z] 3)) fun e w' => e = .returned (.bool x) ∧ W.alloc (.cells #[.int .i64 z] 3) = w'
theorem rfitsOne (lo hi z : Int) (x : Bool) (h : (decide (lo ≤ z) && decide (z ≤ hi)) = x) : RFitsIs lo hi z x := fun W g hg => by
  subst hg
  have := rfits_any lo hi _ [z] 1 _ (fun _ => True) (by simp) (Rd.new W #[.int .i64 z] 3 trivial)
  simpa [fits, h] using this

set_option maxRecDepth 100000 in
set_option maxHeartbeats 4000000 in
theorem rs_main (t a : Int) (A : Option Addr) (l : List UInt8) (c : Nat) (t' a' : Int) (A' : Option Addr) (l' : List UInt8) (c' : Nat) (w : World) (p p' : Nat → Prop) (h : Rd w p A (bs l)) (h' : Rd w p' A' (bs l')) (hl : (l.length : Int) ≤ 255) (hl' : (l'.length : Int) ≤ 255) :
    Calls Try.prog 8 #[.agg #[.int .i64 t, .int .i64 a, .slice A l.length c], .agg #[.int .i64 t', .int .i64 a', .slice A' l'.length c']] w fun e w' => e = .returned (.bool true) ∧ Below w.heap.size w w' := by
  obtain ⟨R, hR⟩ : ∃ R, splitR 0 7 l = R := ⟨_, rfl⟩
  have HR := Lib.hid (splitR_facts 0 7 l)
  rw [hR] at HR
  obtain ⟨N2, hN2⟩ : ∃ N2, R.length = N2 := ⟨_, rfl⟩
  obtain ⟨x, hx⟩ : ∃ x, decide (t = t' ∧ a = a' ∧ l = l') = x := ⟨_, rfl⟩
  obtain ⟨n, hn⟩ : ∃ n, l.length = n := ⟨_, rfl⟩
  obtain ⟨n', hn'⟩ : ∃ n, l'.length = n := ⟨_, rfl⟩
  have CA : Hid (∀ W : World, Calls Try.prog 13 #[] W fun e w' => e = .returned (.bool true) ∧ Below W.heap.size W w') := fun W => alive3_any W
  have CS : Hid (∀ (A5 : Option Addr) (c5 : Nat) (W : World), n ≤ c5 → Rd W (fun _ => True) A5 (bs l) → Calls Try.prog 26 #[.int .i64 0, .int .i64 7, .slice A5 n c5] W fun e w' => ∃ v xs, e = .returned v ∧ w'.ownsRow W.heap.size 25 3 v N2 xs ∧
      RecVals (fun u d => w'.ownsRow W.heap.size 5 1 u d.length (bs d)) xs R ∧ Below W.heap.size W w') := fun A5 c5 W h1 h2 => by
    have := split_any 0 7 A5 l c5 W _ (by omega) h2
    rw [hR, hN2, hn] at this
    exact this
  have CO : Hid (∀ W w7 : World, W.heap = w7.heap → Below w.heap.size w w7 → Calls Try.prog 24 #[.agg #[.int .i64 t, .int .i64 a, .slice A n c], .agg #[.int .i64 t', .int .i64 a', .slice A' n' c']] W fun e w' => e = .returned (.bool x) ∧ Below W.heap.size W w') := fun W w7 hh hb => by
    have := osame_any t a t' a' A A' l l' c c' W _ _ (by omega) ((h.after hb).heap hh) ((h'.after hb).heap hh)
    rwa [hx, hn, hn'] at this
  have CR : Hid (∀ W w7 : World, W.heap = w7.heap → Below w.heap.size w w7 → Calls Try.prog 16 #[.agg #[.int .i64 t, .int .i64 a, .slice A n c], .agg #[.int .i64 t', .int .i64 a', .slice A' n' c']] W fun e w' => e = .returned (.bool x) ∧ Below W.heap.size W w') := fun W w7 hh hb => by
    have := rsame_any t a t' a' A A' l l' c c' W _ _ ((h.after hb).heap hh) ((h'.after hb).heap hh)
    rwa [hx, hn, hn'] at this
  have CE : Hid (∀ (W w7 : World) (A5 : Option Addr) (c5 : Nat), W.heap = w7.heap → Below w.heap.size w w7 → Rd w7 (fun _ => True) A5 (bs l) → Calls Try.prog 28 #[.slice A5 n c5, .slice A n c] W fun e w' => e = .returned (.bool true) ∧ Below W.heap.size W w') := fun W w7 A5 c5 hh hb h5 =>
    (equal_any A5 A l l _ _ c5 c W _ _ hn.symm hn.symm (by omega) (h5.heap hh) ((h.after hb).heap hh)).mono fun e w' ⟨h1, m, h2⟩ => ⟨by rw [h1, decide_eq_true rfl], by rw [h2]; exact below_of_drewN _ _ _⟩
  have CF := Lib.hid (rfitsOne 0 255 (n : Int) true (by simp; omega))
  have HD := Lib.hid (show Rd w p A (bs l) ∧ l.length = n ∧ R.length = N2 from ⟨h, hn, hN2⟩)
  have HS0 := Lib.hid (Six.new w (.int .i64 t) (.int .i64 a) (.slice A n c) (.int .i64 t') (.int .i64 a') (.slice A' n' c') 29 29)
  have B0 : Hid (Below w.heap.size w ((w.alloc (.cells #[.int .i64 t, .int .i64 a, .slice A n c] 29)).alloc (.cells #[.int .i64 t', .int .i64 a', .slice A' n' c'] 29))) := ((Below.refl _ _).alloc (Nat.le_refl _) _).alloc (by simp) _
  have hN2b : (N2 : Int) ≤ 65536 := by have := HR.out.2.1; omega
  rw [hn] at hl
  rw [hn'] at hl'
  rw [hn, hn']
  clear h h' hn hn' hN2 hx hR
  have HAL : Hid (Below w.heap.size w (((w.alloc (.cells #[.int .i64 t, .int .i64 a, .slice A n c] 29)).alloc (.cells #[.int .i64 t', .int .i64 a', .slice A' n' c'] 29)).alloc (.cells #[] 5))) := (((Below.refl _ _).alloc (Nat.le_refl _) _).alloc (by simp) _).alloc (by simp; omega) _
  go_enter Try.func8, Try.ntmps8
  go_wp2_with (first
    | (at_builtin; go_loud (refine wpList_app el_bytes rfl (.tmp 20) (.tmp 22) rfl (w.heap.size + 1 + 1) _ 0 [] p A n c (bs l) rfl rfl (own_lit3 w _ _) (by rw [bs_length, HD.out.2.1]; omega) (HD.out.1.after HAL.out) (bs_one _) (by simp only [maxLen]; omega) (by omega) (by simp) ?_; intro v2 w2 hown2 hg2 _ _; obtain ⟨A5, c5, rfl, hnc5, _⟩ := own_form hown2; have HO2 : Hid (w2.ownsRow (w.heap.size + 1 + 1) 5 1 (.slice A5 n c5) n (bs l)) := own_zero hown2; have HB2 := Lib.hid (below_lit3 hg2); have HNC := Lib.hid (show n ≤ c5 from (by have := hnc5; omega)); clear hown2 hg2 hnc5))
    | (go_at_call 26; go_loud (refine (CS.out A5 c5 _ HNC.out (Rd.of_own HO2.out (fun _ _ _ => trivial))).mono ?_; rintro e w3 ⟨v, xs, rfl, q3, q4, q5⟩; obtain ⟨A2, c2, rfl, _⟩ := own_form q3; have Q3 := Lib.hid q3; have Q4 := Lib.hid q4; have Q5 := Lib.hid q5; clear q3 q4 q5)))
  go_loopw [27] (fun v W => ∃ j : Nat, j ≤ N2 ∧ v = .int .i64 j ∧ Hid (RecLens W (fun q => w2.heap.size ≤ q ∧ NF W q) xs R) ∧ Hid (Rd W (fun q => w2.heap.size ≤ q) A2 xs) ∧ Hid (Below w2.heap.size w2 W)) (fun v _ => N2 - (intOf v).toNat)
  case atStart => exact ⟨0, Nat.zero_le _, rfl, Q4.out.lens, Rd.of_own Q3.out (fun _ h _ => h), Q5.out⟩
  case round =>
    obtain ⟨j, hj, rfl, hL, hA, hBW⟩ := hrel
    by_cases hlt2 : j < N2
    · obtain ⟨b3, o3, B3, c3, l3, hA3, _, hc30, hc31, hc32, hl3, hd3⟩ := hA.out.recl hL.out (i := j) (by rw [HD.out.2.2]; exact hlt2)
      subst hA3
      obtain ⟨r3, hr3⟩ : ∃ r3, R[j]'(by rw [HD.out.2.2]; exact hlt2) = r3 := ⟨_, rfl⟩
      have hl3b : (r3.2.length : Int) ≤ 65536 := by
        have := HR.out.2.2 _ (List.getElem_mem (by rw [HD.out.2.2]; exact hlt2 : j < R.length))
        rw [hr3, HD.out.2.1] at this
        omega
      rw [hr3] at hc31 hc32 hl3
      have HD3 := Lib.hid hd3
      have HL3 := Lib.hid hl3
      have HLW := Lib.hid hL.out
      have HAW := Lib.hid hA.out
      have HBW := Lib.hid hBW.out
      clear hr3 hd3 hl3 hL hA hBW
      obtain ⟨w4, rfl⟩ : ∃ w4 : World, w4 = wr := ⟨_, rfl⟩
      have HST := Lib.hid (RSt.start (x := .int .i64 0) (y := .int .i64 r3.1) (t := 25) (c := c3) HLW.out HAW.out HBW.out HD3.out HL3.out)
      obtain ⟨n6, hn6⟩ : ∃ n6, r3.2.length = n6 := ⟨_, rfl⟩
      rw [hn6] at hl3b hc32 HST
      obtain ⟨y3, hy3⟩ : ∃ y3, r3.1 = y3 := ⟨_, rfl⟩
      rw [hy3] at hc31 HST
      clear hn6 hy3 HL3 HD3
      go_wp2
      go_loopw [34] (fun v V => ∃ i : Nat, i ≤ n6 ∧ v = .int .i64 i ∧ Hid (RSt w2 V (some ⟨b3, o3, none⟩) xs R w4.heap.size B3 n6 c3)) (fun v _ => n6 - (intOf v).toNat)
      case atStart => exact ⟨0, Nat.zero_le _, rfl, HST.out⟩
      case round =>
        obtain ⟨i, hi, rfl, hS⟩ := hrel
        have hcb := hS.out.cell
        by_cases hlt3 : i < n6
        · obtain ⟨b5, o5, y, e5, hc5, hf5, hb5⟩ := hS.out.get hlt3
          subst e5
          have HB5 := Lib.hid hb5
          clear hb5
          go_wp2
          go_roundw
          case rel => exact ⟨i + 1, by omega, by go_num, hS.out.set hc5 HB5.out (byte_lo _) (byte_hi _)⟩
          case measure => simp [intOf]; omega
        · go_wp2
          go_roundw
          case rel => exact ⟨j + 1, by omega, by go_num, hS.out.lens, hS.out.rd, hS.out.below⟩
          case measure => simp [intOf]; omega
    · have HBW := Lib.hid hBW.out
      clear hL hA hBW
      have P0 := Lib.hid (show Six _ _ _ _ _ _ _ _ wr ∧ Below w2.heap.size w2 wr from ⟨HS0.out.after (HB2.out.trans (HBW.out.mono HB2.out.size)), HBW.out⟩)
      have BT : Hid (∀ W : World, Below w2.heap.size w2 W → Below w.heap.size w W ∧ Rd W (fun _ => True) A5 (bs l)) := fun W hb => by
        have h1 := B0.out.trans (HB2.out.mono B0.out.size)
        exact ⟨h1.trans (hb.mono h1.size), (Rd.of_own HO2.out (fun _ _ _ => trivial)).after hb⟩
      obtain ⟨⟨s0, s1, s2, s3, s4, s5⟩, _⟩ := P0.out
      clear HBW HS0 B0 HO2 HB2 HAL Q3 Q4 Q5 CS HD HR
      rcases x with _ | _
      all_goals
        go_wp2
        go_region_held3 (fun w' => w'.cell? ⟨w.heap.size, 0, none⟩ = some (.int .i64 t) ∧ w'.cell? ⟨w.heap.size, 1, none⟩ = some (.int .i64 a) ∧ w'.cell? ⟨w.heap.size, 2, none⟩ = some (.slice A n c) ∧ w'.cell? ⟨w.heap.size + 1, 0, none⟩ = some (.int .i64 t') ∧ w'.cell? ⟨w.heap.size + 1, 1, none⟩ = some (.int .i64 a') ∧ w'.cell? ⟨w.heap.size + 1, 2, none⟩ = some (.slice A' n' c')) (first | assumption | go_keep | (refine ⟨keep_alloc0 _ ?_, keep_alloc0 _ ?_, keep_alloc0 _ ?_, keep_alloc0 _ ?_, keep_alloc0 _ ?_, keep_alloc0 _ ?_⟩ <;> assumption))
          (first
            | (go_at_call 13; refine (CA.out _).mono ?_; rintro e w5 ⟨rfl, hb⟩; have P5 := Lib.hid (pst P0.out (below_dr1 hb)); obtain ⟨⟨t0, t1, t2, t3, t4, t5⟩, _⟩ := P5.out; clear hb)
            | (go_at_call 24; refine (CO.out _ w5 (by rfl) (BT.out _ P5.out.2).1).mono ?_; rintro e w6 ⟨rfl, hb⟩; have P6 := Lib.hid (pst P5.out hb); obtain ⟨⟨u0, u1, u2, u3, u4, u5⟩, _⟩ := P6.out; clear hb)
            | (go_at_call 16; refine (CR.out _ w6 (by rfl) (BT.out _ P6.out.2).1).mono ?_; rintro e w7 ⟨rfl, hb⟩; have P7 := Lib.hid (pst P6.out hb); obtain ⟨⟨v0, v1, v2, v3, v4, v5⟩, _⟩ := P7.out; clear hb)
            | (go_at_call 28; refine (CE.out _ w7 A5 c5 (by rfl) (BT.out _ P7.out.2).1 (BT.out _ P7.out.2).2).mono ?_; rintro e w8 ⟨rfl, hb⟩; have P8 := Lib.hid (pst P7.out hb); obtain ⟨⟨x0, x1, x2, x3, x4, x5⟩, _⟩ := P8.out; clear hb)
            | (go_at_call 29; refine (CF.out _ _ (by simp)).mono ?_; rintro e w9 ⟨rfl, rfl⟩))
        go_wp2
        go_ret
        exact ⟨rfl, ((BT.out _ P8.out.2).1).alloc ((BT.out _ P8.out.2).1).size _⟩
theorem rs_all (t a : Int) (A : Option Addr) (l : List UInt8) (c : Nat) (t' a' : Int) (A' : Option Addr) (l' : List UInt8) (c' : Nat) (w : World) (p p' : Nat → Prop) (h : Rd w p A (bs l)) (h' : Rd w p' A' (bs l')) :
    Calls Try.prog 8 #[.agg #[.int .i64 t, .int .i64 a, .slice A l.length c], .agg #[.int .i64 t', .int .i64 a', .slice A' l'.length c']] w fun e w' => e = .returned (.bool true) ∧ Below w.heap.size w w' := by
  by_cases h1 : 255 < (l.length : Int)
  · exact rs_long t a A _ c t' a' A' _ c' w (.inl h1)
  · by_cases h2 : 255 < (l'.length : Int)
    · exact rs_long t a A _ c t' a' A' _ c' w (.inr ⟨by omega, h2⟩)
    · exact rs_main t a A l c t' a' A' l' c' w p p' h h' (by omega) (by omega)
end Go.Proofs.Ytilfbnfejnjaeaa
