/- The walk of the statement NumHexes. -/
import Derived.Test.YtilfbnfejnjaeaaDoorAlive1
import Derived.Test.YtilfbnfejnjaeaaDoorRlow
import Derived.Test.YtilfbnfejnjaeaaDoorEqual
namespace Go.Proofs.YtilfbnfejnjaeaaDoor
open Go.RowKit

theorem hd_facts1 : ∀ d : Fin 16, hv (hd d.val) = d.val ∧ upc (hd d.val) = hd d.val := by decide +kernel
theorem hex_two (n : Int) : pairs ((hexS n 2).map upc) = some [lowB n] := by
  obtain ⟨a, ha, ha2⟩ : ∃ a, a < 16 ∧ (n / (16 : Int) ^ 1 % 16).toNat = a := ⟨_, by omega, rfl⟩
  obtain ⟨b, hb, hb2⟩ : ∃ b, b < 16 ∧ (n / (16 : Int) ^ 0 % 16).toNat = b := ⟨_, by omega, rfl⟩
  obtain ⟨h1, h2⟩ := hd_facts1 ⟨a, ha⟩
  obtain ⟨h3, h4⟩ := hd_facts1 ⟨b, hb⟩
  have e : UInt8.ofNat (a * 16 + b) = lowB n := by
    unfold lowB
    congr 1
    rw [Int.pow_one] at ha2
    rw [Int.pow_zero] at hb2
    omega
  rw [hexS, hexS, hexS, ha2, hb2]
  simp only [List.map_cons, List.map_nil, h2, h4]
  rw [pairs_cons, h1, h3, if_pos ⟨ha, hb⟩, e]
  rfl
theorem bytes_two (n : Int) (H : ByteArray) (hH : H.data.toList = hexS n 2) (w : World) :
    Calls Tryd.prog 25 #[.string H] w fun e w' => ∃ A c, e = .returned (.tuple #[.slice A 1 c, .bool true]) ∧ Rd w' (fun _ => True) A (bs [lowB n]) ∧ Below w.heap.size w w' := by
  have hs : H.size = 2 := by rw [← str_len, hH]; exact hexS_length n 2
  have := bytes_any H w (by omega)
  rw [hH, hex_two] at this
  refine this.mono fun e w' ⟨hb, v, he, ho⟩ => ?_
  obtain ⟨A, c, rfl, _⟩ := own_form ho
  exact ⟨A, c, he, Rd.of_own ho (fun _ _ _ => trivial), hb⟩
theorem rlow_one (n : Int) (W : World) (g : Nat) (hg : W.heap.size = g) :
    Calls Tryd.prog 22 #[.slice (some ⟨g, 0, none⟩) 1 1] (W.alloc (.cells #[.int .i64 n] 3)) fun e w' => ∃ A c, e = .returned (.slice A 1 c) ∧ Rd w' (fun _ => True) A (bs [lowB n]) ∧ Below W.heap.size W w' := by
  subst hg
  refine (rlow_any _ [n] 1 _ (fun _ => True) (by simp) (Rd.new W #[.int .i64 n] 3 trivial)).mono fun e w' ⟨v, he, ho, hb⟩ => ?_
  obtain ⟨A, c, rfl, _⟩ := own_form ho
  exact ⟨A, c, he, Rd.of_own ho (fun _ _ _ => trivial), ((Below.refl _ _).alloc (Nat.le_refl _) _).trans (hb.mono (by simp))⟩
theorem equal_yes (A A' : Option Addr) (l : List UInt8) (n n' c c' : Nat) (w : World) (p p' : Nat → Prop) (hn : n = l.length) (hn' : n' = l.length) (hm : (l.length : Int) ≤ 9223372036854775807)
    (h : Rd w p A (bs l)) (h' : Rd w p' A' (bs l)) :
    Calls Tryd.prog 21 #[.slice A n c, .slice A' n' c'] w fun e w' => e = .returned (.bool true) ∧ Below w.heap.size w w' := by
  have := equal_any A A' l l n n' c c' w p p' hn hn' hm h h'
  rw [decide_eq_true rfl] at this
  exact this.mono fun e w' ⟨h1, m, h2⟩ => ⟨h1, by rw [h2]; exact below_of_drewN _ _ _⟩
set_option maxHeartbeats 2000000 in
theorem hexes_law (n y : Int) (w : World) (hT : T16 w) (hy0 : 0 ≤ y) (hy1 : y ≤ 255) :
    Calls Tryd.prog 7 #[.int .i64 n, .int .u8 y] w fun e w' => e = .returned (.bool true) ∧ Below w.heap.size w w' := by
  obtain ⟨k, hk⟩ : ∃ k : Nat, y % 9 = (k : Int) := ⟨(y % 9).toNat, by omega⟩
  have hk8 : (k : Int) ≤ 8 := by omega
  obtain ⟨H, hH⟩ : ∃ H : ByteArray, (⟨(hexS n 2).toArray⟩ : ByteArray) = H := ⟨_, rfl⟩
  obtain ⟨S, hS⟩ : ∃ S : ByteArray, (⟨(hexS n k).toArray⟩ : ByteArray) = S := ⟨_, rfl⟩
  have C1 : Hid (∀ W : World, Calls Tryd.prog 26 #[.int .i64 n, .int .i64 2] W fun e w' => e = .returned (.string H) ∧ Below W.heap.size W w') := fun W => by
    rw [← hH]
    exact hex_any n 2 (by decide) W
  have C2 : Hid (∀ W : World, Calls Tryd.prog 25 #[.string H] W fun e w' => ∃ A c, e = .returned (.tuple #[.slice A 1 c, .bool true]) ∧ Rd w' (fun _ => True) A (bs [lowB n]) ∧ Below W.heap.size W w') := fun W => bytes_two n H (by rw [← hH]) W
  have C3 : Hid (∀ W : World, Below w.heap.size w W → Calls Tryd.prog 11 #[] W fun e w' => e = .returned (.bool true) ∧ Below W.heap.size W w') := fun W hb => alive1_any W (hT.after hb (Nat.le_refl _))
  have C4 : Hid (∀ W : World, Calls Tryd.prog 26 #[.int .i64 n, .int .i64 (k : Int)] W fun e w' => e = .returned (.string S) ∧ Below W.heap.size W w') := fun W => by
    rw [← hS]
    exact hex_any n k hk8 W
  have C5 : Hid (∀ W : World, Calls Tryd.prog 27 #[.int .i64 n, .int .i64 (k : Int)] W fun e w' => e = .returned (.string S) ∧ W = w') := fun W => by
    rw [← hS]
    exact rhex_any n k hk8 W
  have C6 : Hid (∀ (W : World) (g : Nat), W.heap.size = g → Calls Tryd.prog 22 #[.slice (some ⟨g, 0, none⟩) 1 1] (W.alloc (.cells #[.int .i64 n] 3)) fun e w' => ∃ A c, e = .returned (.slice A 1 c) ∧ Rd w' (fun _ => True) A (bs [lowB n]) ∧ Below W.heap.size W w') := fun W g hg => rlow_one n W g hg
  have C7 : Hid (∀ (W : World) A A' c c', Rd W (fun _ => True) A (bs [lowB n]) → Rd W (fun _ => True) A' (bs [lowB n]) → Calls Tryd.prog 21 #[.slice A 1 c, .slice A' 1 c'] W fun e w' => e = .returned (.bool true) ∧ Below W.heap.size W w') := fun W A A' c c' h h' => equal_yes A A' [lowB n] 1 1 c c' W _ _ rfl rfl (by simp) h h'
  have ds : (S.toList == S.toList) = true := beq_self_eq_true _
  clear hT hH hS
  go_enter Tryd.func7, Tryd.ntmps7
  go_wp2_with (first
    | (go_at_call 26; (with_reducible refine (C1.out _).mono ?_); rintro e w1 ⟨rfl, hb⟩; have B1 := Lib.hid hb; clear hb)
    | (go_at_call 25; refine (C2.out _).mono ?_; rintro e w2 ⟨A2, c2, rfl, hr, hb⟩; have R2 := Lib.hid hr; have B2 := Lib.hid (B1.out.trans (hb.mono B1.out.size)); clear hr hb)
    | (go_at_call 11; refine (C3.out _ B2.out).mono ?_; rintro e w3 ⟨rfl, hb⟩; have R3 := Lib.hid (R2.out.after hb); have B3 := Lib.hid (B2.out.trans (hb.mono B2.out.size)); clear hb)
    | (go_at_call 26; refine (C4.out _).mono ?_; rintro e w4 ⟨rfl, hb⟩; have R4 := Lib.hid (R3.out.after hb); have B4 := Lib.hid (B3.out.trans (hb.mono B3.out.size)); clear hb)
    | (go_at_call 27; refine (C5.out _).mono ?_; rintro e w5 ⟨rfl, rfl⟩)
    | (go_at_call 22; refine (C6.out _ _ rfl).mono ?_; rintro e w6 ⟨A6, c6, rfl, hr, hb⟩; have R6 := Lib.hid hr; have R6' := Lib.hid (R4.out.after hb); have B6 := Lib.hid (B4.out.trans (hb.mono B4.out.size)); clear hr hb)
    | (go_at_call 21; refine (C7.out _ _ _ _ _ R6'.out R6.out).mono ?_; rintro e w7 ⟨rfl, hb⟩; have B7 := Lib.hid (B6.out.trans (hb.mono B6.out.size)); clear hb))
  go_ret
  exact ⟨rfl, B7.out⟩
end Go.Proofs.YtilfbnfejnjaeaaDoor
