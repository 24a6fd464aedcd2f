/- The walk of the statement NumLow. -/
import Derived.Test.YtilfbnfejnjaeaaDoorLawHexes
namespace Go.Proofs.YtilfbnfejnjaeaaDoor
open Go.RowKit

theorem lowB_sgn (c : UInt8) : lowB (sgn c) = c := by
  have h := lowB_val (sgn c)
  have e : sgn c % 256 = (c.toNat : Int) := by
    have := c.toNat_lt
    unfold sgn
    split <;> omega
  apply UInt8.toNat_inj.1
  omega
theorem Rd.byteAt {w : World} {p : Nat → Prop} {A : Option Addr} {l : List UInt8} (h : Rd w p A (bs l)) {k : Nat} (hk : k < l.length) :
    ∃ b o c, A = some ⟨b, o, none⟩ ∧ p b ∧ w.cell? ⟨b, o + k, none⟩ = some (.int .u8 (c.toNat : Int)) ∧ l[k]? = some c := by
  obtain ⟨b, o, h1, h2, h3⟩ := h.byte hk
  exact ⟨b, o, l[k], h1, h2, h3, List.getElem?_eq_getElem hk⟩
theorem low_one (z : Int) (x : UInt8) (hz : lowB z = x) (W : World) (g : Nat) (hg : W.heap.size = g) :
    Calls Tryd.prog 18 #[.slice (some ⟨g, 0, none⟩) 1 1] (W.alloc (.cells #[.int .i64 z] 3)) fun e w' => ∃ A c, e = .returned (.slice A 1 c) ∧ Rd w' (fun _ => True) A (bs [x]) ∧ Below W.heap.size W w' := by
  subst hg
  refine (low_any _ [z] 1 _ (fun _ => True) (by simp) (Rd.new W #[.int .i64 z] 3 trivial)).mono fun e w' ⟨v, he, ho, hb⟩ => ?_
  obtain ⟨A, c, rfl, _⟩ := own_form ho
  refine ⟨A, c, he, ?_, ((Below.refl _ _).alloc (Nat.le_refl _) _).trans (hb.mono (by simp))⟩
  have := Rd.of_own (p := fun _ => True) ho (fun _ _ _ => trivial)
  rw [show [z].map lowB = [x] from by simp [hz]] at this
  exact this
set_option maxHeartbeats 1000000 in
theorem low_long (A : Option Addr) (n c : Nat) (lo hi : Int) (w : World) (hT : T16 w) (h : 200 < (n : Int)) :
    Calls Tryd.prog 6 #[.slice A n c, .int .i64 lo, .int .i64 hi] w fun e w' => e = .returned (.bool true) ∧ Below w.heap.size w w' := by
  have C := Lib.hid (alive1_any w hT)
  clear hT
  go_enter Tryd.func6, Tryd.ntmps6
  go_wp2_with (go_at_call 11; refine C.out.mono ?_; rintro e w1 ⟨rfl, hb⟩; have HB := Lib.hid hb; clear hb)
  go_ret
  exact ⟨rfl, HB.out⟩
set_option maxHeartbeats 4000000 in
theorem low_short (A : Option Addr) (zs : List Int) (c : Nat) (lo hi : Int) (w : World) (p : Nat → Prop) (hT : T16 w) (hm : (zs.length : Int) ≤ 200) (h : Rd w p A (ils zs)) :
    Calls Tryd.prog 6 #[.slice A zs.length c, .int .i64 lo, .int .i64 hi] w fun e w' => e = .returned (.bool true) ∧ Below w.heap.size w w' := by
  have C1 : Hid (Calls Tryd.prog 18 #[.slice A zs.length c] w fun e w' => ∃ A c, e = .returned (.slice A zs.length c) ∧ Rd w' (fun _ => True) A (bs (zs.map lowB)) ∧ Below w.heap.size w w') :=
    (low_any A zs c w p (by omega) h).mono fun e w' ⟨v, he, ho, hb⟩ => by
      obtain ⟨A, c, rfl, _⟩ := own_form ho
      exact ⟨A, c, he, Rd.of_own ho (fun _ _ _ => trivial), hb⟩
  have C2 : Hid (∀ W : World, Below w.heap.size w W → Calls Tryd.prog 22 #[.slice A zs.length c] W fun e w' => ∃ A c, e = .returned (.slice A zs.length c) ∧ Rd w' (fun _ => True) A (bs (zs.map lowB)) ∧ Below W.heap.size W w') := fun W hb =>
    (rlow_any A zs c W p (by omega) (h.after hb)).mono fun e w' ⟨v, he, ho, hb⟩ => by
      obtain ⟨A, c, rfl, _⟩ := own_form ho
      exact ⟨A, c, he, Rd.of_own ho (fun _ _ _ => trivial), hb⟩
  have C3 : Hid (∀ W : World, Below w.heap.size w W → Calls Tryd.prog 11 #[] W fun e w' => e = .returned (.bool true) ∧ Below W.heap.size W w') := fun W hb => alive1_any W (hT.after hb (Nat.le_refl _))
  obtain ⟨f, hf⟩ : ∃ f, fits lo hi zs = f := ⟨_, rfl⟩
  have C4 : Hid (∀ W : World, Below w.heap.size w W → Calls Tryd.prog 23 #[.int .i64 lo, .int .i64 hi, .slice A zs.length c] W fun e w' => e = .returned (.bool f) ∧ W = w') := fun W hb => by
    rw [← hf]
    exact fits_any lo hi A zs c W p (by omega) (h.after hb)
  have C5 : Hid (∀ W : World, Below w.heap.size w W → Calls Tryd.prog 24 #[.int .i64 lo, .int .i64 hi, .slice A zs.length c] W fun e w' => e = .returned (.bool f) ∧ W = w') := fun W hb => by
    rw [← hf]
    exact rfits_any lo hi A zs c W p (by omega) (h.after hb)
  have C6 : Hid (∀ (W : World) A A' c c', Rd W (fun _ => True) A (bs (zs.map lowB)) → Rd W (fun _ => True) A' (bs (zs.map lowB)) → Calls Tryd.prog 21 #[.slice A zs.length c, .slice A' zs.length c'] W fun e w' => e = .returned (.bool true) ∧ Below W.heap.size W w') := fun W A A' c c' h h' => equal_yes A A' (zs.map lowB) _ _ c c' W _ _ (by simp) (by simp) (by simp; omega) h h'
  have df : (f == f) = true := beq_self_eq_true _
  obtain ⟨D, hD⟩ : ∃ D, zs.map lowB = D := ⟨_, rfl⟩
  have hDl : D.length = zs.length := by rw [← hD, List.length_map]
  rw [hD] at C1 C2 C6
  obtain ⟨n, hn⟩ : ∃ n, zs.length = n := ⟨_, rfl⟩
  rw [hn] at C1 C2 C4 C5 C6 hm hDl
  rw [hn]
  have HDL := Lib.hid hDl
  clear h hT hf hD hn hDl
  go_enter Tryd.func6, Tryd.ntmps6
  go_wp2_with (go_at_call 18; refine C1.out.mono ?_; rintro e w1 ⟨A1, c1, rfl, hr, hb⟩; have R1 := Lib.hid hr; have B1 := Lib.hid hb; clear hr hb)
  go_loopw [18] (fun v W => ∃ k : Nat, (k : Int) ≤ n ∧ v = .int .i64 k ∧ Hid (Rd W (fun _ => True) A1 (bs D)) ∧ Hid (Below w.heap.size w W)) (fun v _ => n - (intOf v).toNat)
  case atStart => exact ⟨0, by omega, rfl, R1.out, B1.out⟩
  case round =>
    obtain ⟨k, hk, rfl, hP, hQ⟩ := hrel
    by_cases hlt : (k : Int) < n
    · obtain ⟨b, o, x, hA1, _, hc, hz⟩ := hP.out.byteAt (k := k) (by rw [HDL.out]; omega)
      have h255 := byte_le x
      obtain ⟨z, hzz⟩ : ∃ z, sgn x = z := ⟨_, rfl⟩
      have D1 : Hid (∀ W : World, Calls Tryd.prog 19 #[.int .u8 (x.toNat : Int)] W fun e w' => e = .returned (.int .i64 z) ∧ W = w') := fun W => by rw [← hzz]; exact signed_any x W
      have D2 : Hid (∀ W : World, Calls Tryd.prog 20 #[.int .u8 (x.toNat : Int)] W fun e w' => e = .returned (.int .i64 z) ∧ W = w') := fun W => by rw [← hzz]; exact rsigned_any x W
      have D3 : Hid (∀ (W : World) (g : Nat), W.heap.size = g → Calls Tryd.prog 18 #[.slice (some ⟨g, 0, none⟩) 1 1] (W.alloc (.cells #[.int .i64 z] 3)) fun e w' => ∃ A c, e = .returned (.slice A 1 c) ∧ Rd w' (fun _ => True) A (bs [x]) ∧ Below W.heap.size W w') := fun W g hg => low_one z x (by rw [← hzz]; exact lowB_sgn x) W g hg
      have D4 : Hid (∀ (W : World) (g : Nat) A c, W.heap.size = g → Rd W (fun _ => True) A (bs [x]) → Calls Tryd.prog 21 #[.slice A 1 c, .slice (some ⟨g, 0, none⟩) 1 1] (W.alloc (.cells #[.int .u8 (x.toNat : Int)] 5)) fun e w' => e = .returned (.bool true) ∧ Below W.heap.size W w') := fun W g A c hg hr => by
        subst hg
        exact (equal_yes A _ [x] 1 1 c 1 _ (fun _ => True) (fun _ => True) rfl rfl (by simp) (hr.after ((Below.refl _ _).alloc (Nat.le_refl _) _)) (Rd.new W #[.int .u8 (x.toNat : Int)] 5 trivial)).mono fun e w' ⟨h1, h2⟩ => ⟨h1, ((Below.refl _ _).alloc (Nat.le_refl _) _).trans (h2.mono (by simp))⟩
      have dz : (z != z) = false := bne_self_eq_false z
      subst hA1
      clear hz hzz
      go_wp2_with (first
        | (go_at_call 19; refine (D1.out _).mono ?_; rintro e w2 ⟨rfl, rfl⟩)
        | (go_at_call 20; refine (D2.out _).mono ?_; rintro e w2 ⟨rfl, rfl⟩)
        | (go_at_call 18; refine (D3.out _ _ rfl).mono ?_; rintro e w3 ⟨A3, c3, rfl, hr, hb⟩; have R3 := Lib.hid hr; have P3 := Lib.hid (hP.out.after hb); have B3 := Lib.hid (hQ.out.trans (hb.mono hQ.out.size)); clear hr hb)
        | (go_at_call 21; refine (D4.out _ _ _ _ rfl R3.out).mono ?_; rintro e w4 ⟨rfl, hb⟩; have P4 := Lib.hid (P3.out.after hb); have B4 := Lib.hid (B3.out.trans (hb.mono B3.out.size)); clear hb))
      go_roundw
      case rel => exact ⟨k + 1, by omega, by go_num, P4.out, B4.out⟩
      case measure => simp [intOf]; omega
    · go_wp2_with (first
        | (go_at_call 11; refine (C3.out _ hQ.out).mono ?_; rintro e w2 ⟨rfl, hb⟩; have P2 := Lib.hid (hP.out.after hb); have B2 := Lib.hid (hQ.out.trans (hb.mono hQ.out.size)); clear hb)
        | (go_at_call 22; refine (C2.out _ B2.out).mono ?_; rintro e w3 ⟨A3, c3, rfl, hr, hb⟩; have R3 := Lib.hid hr; have P3 := Lib.hid (P2.out.after hb); have B3 := Lib.hid (B2.out.trans (hb.mono B2.out.size)); clear hr hb)
        | (go_at_call 21; refine (C6.out _ _ _ _ _ P3.out R3.out).mono ?_; rintro e w4 ⟨rfl, hb⟩; have B4 := Lib.hid (B3.out.trans (hb.mono B3.out.size)); clear hb)
        | (go_at_call 23; refine (C4.out _ B4.out).mono ?_; rintro e w5 ⟨rfl, rfl⟩)
        | (go_at_call 24; refine (C5.out _ B4.out).mono ?_; rintro e w5 ⟨rfl, rfl⟩))
      go_ret
      exact ⟨rfl, B4.out⟩
theorem low_law (A : Option Addr) (zs : List Int) (c : Nat) (lo hi : Int) (w : World) (p : Nat → Prop) (hT : T16 w) (h : Rd w p A (ils zs)) :
    Calls Tryd.prog 6 #[.slice A zs.length c, .int .i64 lo, .int .i64 hi] w fun e w' => e = .returned (.bool true) ∧ Below w.heap.size w w' := by
  by_cases hm : 200 < (zs.length : Int)
  · exact low_long A _ c lo hi w hT hm
  · exact low_short A zs c lo hi w p hT (by omega) h
end Go.Proofs.YtilfbnfejnjaeaaDoor
