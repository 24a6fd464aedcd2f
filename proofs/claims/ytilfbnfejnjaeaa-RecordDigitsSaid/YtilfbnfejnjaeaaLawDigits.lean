/- The walk of the statement RecordDigits. -/
import Derived.Test.YtilfbnfejnjaeaaLawPrints
import Derived.Test.YtilfbnfejnjaeaaInv4
namespace Go.Proofs.Ytilfbnfejnjaeaa
open Go.RowKit

set_option maxHeartbeats 1000000 in
theorem digits_no (t a : Int) (A : Option Addr) (n c : Nat) (at' d' : Int) (w : World) (hr : rightB t a n = false) :
    Calls Try.prog 6 #[.agg #[.int .i64 t, .int .i64 a, .slice A n c], .int .u16 at', .int .u8 d'] w fun e w' => e = .returned (.bool true) ∧ Below w.heap.size w w' := by
  have C2 : Hid (∀ W : World, Calls Try.prog 22 #[.agg #[.int .i64 t, .int .i64 a, .slice A n c]] W fun e w' => e = .returned (.tuple #[.string ⟨#[]⟩, .bool false]) ∧ Below W.heap.size W w') := fun W => rprint_no t a A n c W hr
  have C : Hid (∀ W : World, Calls Try.prog 13 #[] W fun e w' => e = .returned (.bool true) ∧ Below W.heap.size W w') := fun W => alive3_any W
  clear hr
  go_enter Try.func6, Try.ntmps6
  go_wp2_with (first
    | (go_at_call 22; refine (C2.out _).mono ?_; rintro e w1 ⟨rfl, hb⟩; have B1 := Lib.hid (below_box hb); clear hb)
    | (go_at_call 13; refine (C.out _).mono ?_; rintro e w2 ⟨rfl, hb⟩; have B2 := Lib.hid (B1.out.trans (hb.mono B1.out.size)); clear hb))
  go_ret
  exact ⟨rfl, B2.out⟩
set_option maxHeartbeats 2000000 in
set_option maxRecDepth 100000 in
theorem digits_yes (t a : Int) (A : Option Addr) (d : List UInt8) (c : Nat) (p : Nat → Prop) (z y : Int) (w : World) (hz0 : 0 ≤ z) (hz1 : z ≤ 65535) (hy0 : 0 ≤ y) (hy1 : y ≤ 255) (hr : rightB t a d.length = true) (hd' : Rd w p A (bs d)) :
    Calls Try.prog 6 #[.agg #[.int .i64 t, .int .i64 a, .slice A d.length c], .int .u16 z, .int .u8 y] w fun e w' => e = .returned (.bool true) ∧ Below w.heap.size w w' := by
  obtain ⟨k1, k2, k3, k4, k5⟩ := (rightB_iff _ _ _).1 hr
  obtain ⟨X, hX⟩ : ∃ X, headB d.length a t ++ d = X := ⟨_, rfl⟩
  have hXl : X.length = 4 + d.length := by rw [← hX, List.length_append]; rfl
  obtain ⟨S, hS⟩ : ∃ S : ByteArray, (⟨(lineOf X).toArray⟩ : ByteArray) = S := ⟨_, rfl⟩
  have hs : S.data.toList = lineOf X := by rw [← hS]
  obtain ⟨m, hm⟩ : ∃ m, S.size = m := ⟨_, rfl⟩
  have hml : (lineOf X).length = m := by rw [← hs, str_len, hm]
  have hm2 : m = 11 + 2 * d.length := by
    rw [← hml, lineOf, List.length_cons, hexes_length, List.length_append, hXl]
    simp
    omega
  obtain ⟨i, hi⟩ : ∃ i : Nat, z % ((m : Int) - 1) = (i : Int) := ⟨(z % ((m : Int) - 1)).toNat, by have := Int.emod_nonneg z (b := (m : Int) - 1) (by omega); omega⟩
  have hi1 : (i : Int) < (m : Int) - 1 := by
    rw [← hi]
    exact Int.emod_lt_of_pos _ (by omega)
  have hm0 : ((m : Int) - 1) ≠ 0 := by omega
  obtain ⟨k, hk⟩ : ∃ k : Nat, 1 + (i : Int) = (k : Int) := ⟨1 + i, by omega⟩
  have hkm : k < m := by omega
  obtain ⟨u, hu⟩ : ∃ u, (lineOf X)[k]? = some u := ⟨_, List.getElem?_eq_getElem (by omega)⟩
  have C2 : Hid (∀ W : World, Below w.heap.size w W → Calls Try.prog 22 #[.agg #[.int .i64 t, .int .i64 a, .slice A d.length c]] W fun e w' => e = .returned (.tuple #[.string S, .bool true]) ∧ Below W.heap.size W w') := fun W hb => by
    have := rprint_yes t a A d c p W hr (hd'.after hb)
    rw [hX, hS] at this
    exact this
  obtain ⟨e, he, hex⟩ : ∃ e : Nat, e < 16 ∧ hexS y 1 = [hd e] := ⟨(y / (16 : Int) ^ 0 % 16).toNat, by omega, rfl⟩
  obtain ⟨x, hx⟩ : ∃ x, hd e = x := ⟨_, rfl⟩
  obtain ⟨U, hU⟩ : ∃ U : ByteArray, (⟨#[x]⟩ : ByteArray) = U := ⟨_, rfl⟩
  have hUs : U.size = 1 := by rw [← hU]; rfl
  have hU0 : U[0]'(by omega) = x := by subst hU; rfl
  have C3 : Hid (∀ W : World, Calls Try.prog 25 #[.int .i64 y, .int .i64 1] W fun e w' => e = .returned (.string U) ∧ Below W.heap.size W w') := fun W => by
    have := hex_any y 1 (by decide) W
    rw [hex, hx] at this
    rw [← hU]
    exact this
  have C6 : Hid (∀ W : World, Calls Try.prog 13 #[] W fun e w' => e = .returned (.bool true) ∧ Below W.heap.size W w') := fun W => alive3_any W
  have C4 : Hid (x ≠ u → ∃ q : Nat, q ≠ 0 ∧ ∀ W : World, Calls Try.prog 14 #[.string ⟨((lineOf X).set k x).toArray⟩] W fun e w' => ∃ A1 c1, e = .returned (.tuple #[.agg #[.int .i64 0, .int .i64 0, .slice A1 0 c1], .int .i64 (q : Int)]) ∧ Below W.heap.size W w') := fun hxu => by
    obtain ⟨q, hq0, hq⟩ := rec_digit (X := X) (i := k) (e := e) (by omega) he (by omega) (by omega) (by rw [hu, hx]; exact fun h => hxu (Option.some.inj h).symm)
    rw [hx] at hq
    refine ⟨q, hq0, fun W => ?_⟩
    have hsz : (⟨((lineOf X).set k x).toArray⟩ : ByteArray).size = m := by rw [← str_len]; simp [hml]
    have := parse_any ⟨((lineOf X).set k x).toArray⟩ W (by omega)
    rw [show (⟨((lineOf X).set k x).toArray⟩ : ByteArray).data.toList = (lineOf X).set k x from rfl, hq] at this
    exact this.mono fun e w' ⟨A1, c1, h1, _, h2⟩ => ⟨A1, c1, h1, h2⟩
  have C8 : Hid (∀ (W : World) (A1 : Option Addr) c1, Calls Try.prog 24 #[.agg #[.int .i64 0, .int .i64 0, .slice A1 0 c1], .agg #[.int .i64 0, .int .i64 0, .slice none 0 0]] W fun e w' => e = .returned (.bool true) ∧ Below W.heap.size W w') := fun W A1 c1 => by
    have := osame_any 0 0 0 0 A1 none [] [] c1 0 W (fun _ => True) (fun _ => True) (by decide) (Rd.nil _ _ _) (Rd.nil _ _ _)
    rw [decide_eq_true ⟨rfl, rfl, rfl⟩] at this
    exact this
  obtain ⟨n, hn⟩ : ∃ n, d.length = n := ⟨_, rfl⟩
  rw [hn] at C2 k5 hm2 hXl
  rw [hn]
  have HS := Lib.hid hs
  have HM := Lib.hid hm
  have HML := Lib.hid hml
  have HX := Lib.hid hx
  have HE := Lib.hid he
  have hm3 : (m : Int) ≤ 600 := by omega
  have hm4 : 11 ≤ (m : Int) := by omega
  have B0 : Hid (Below w.heap.size w (w.alloc (.cells #[.int .i64 t, .int .i64 a, .slice A n c] 29))) := (Below.refl _ _).alloc (Nat.le_refl _) _
  have HU := Lib.hid hu
  clear hr hd' hu hU hn hX hS hs hm hml hm2 k1 k2 k3 k4 hex hx he hXl
  go_enter Try.func6, Try.ntmps6
  go_wp2_with (first
    | (go_at_call 22; refine (C2.out _ B0.out).mono ?_; rintro e w1 ⟨rfl, hb⟩; obtain ⟨r0, r1, r2, _⟩ := box_three' hb; have B1 := Lib.hid (below_box hb); clear hb)
    | (refine wpList_toBytes rfl 9 23 5 Try.underlying9 Try.underlying23 Try.underlying5 (.tmp 28) rfl S rfl ?_; intro cap w2 hcap hb hB hlt; rw [HS.out] at hb; rw [HM.out] at hcap ⊢; have H2 := Lib.hid hb; have B2 := Lib.hid hB; have HC := Lib.hid hcap; clear hb hB hcap hlt)
    | (go_at_call 25; refine (C3.out _).mono ?_; rintro e w3 ⟨rfl, hb⟩; have B3 := Lib.hid hb; clear hb))
  have HB3 : Hid (Buf w3 w1.heap.size (lineOf X)) := H2.out.keep (B3.out.block _ (lt_of_cell (H2.out k (by rw [HML.out]; exact hkm)).1))
  have B03 : Hid (Below w.heap.size w w3) := B1.out.trans ((B2.out.trans (B3.out.mono B2.out.size)).mono B1.out.size)
  have hB1 : w.heap.size ≤ w1.heap.size := B1.out.size
  have hc : w3.cell? ⟨w1.heap.size, k, none⟩ = some (.int .u8 (u.toNat : Int)) := by
    have := (HB3.out k (by rw [HML.out]; exact hkm)).1
    rw [List.getElem?_eq_getElem (by rw [HML.out]; exact hkm)] at HU
    rw [this, Option.some.inj HU.out]
  have hf : w3.frozen? ⟨w1.heap.size, k, none⟩ = false := (HB3.out k (by rw [HML.out]; exact hkm)).2
  clear hi hi1 hm0 hk hz0 hz1 hy0 hy1
  by_cases hxu : x = u
  · subst hxu
    have d1 : ((x.toNat : Int) == (x.toNat : Int)) = true := beq_self_eq_true _
    clear C4
    go_region
    go_wp2_with (go_at_call 13; refine (C6.out _).mono ?_; rintro e w4 ⟨rfl, hb⟩; have B4 := Lib.hid hb; clear hb)
    go_ret
    exact ⟨rfl, (B03.out.drew).trans (B4.out.mono B03.out.drew.size)⟩
  · have d1 : ((x.toNat : Int) == (u.toNat : Int)) = false := by
      simp only [beq_eq_false_iff_ne, ne_eq]
      intro h
      exact hxu (UInt8.toNat_inj.1 (by omega))
    obtain ⟨q, hq0, CQ⟩ := C4.out hxu
    have C4 := Lib.hid CQ
    have dq : ((q : Int) != 0) = true := by simp; omega
    have HB4 : Hid (Rd (w3.setCell ⟨w1.heap.size, k, none⟩ (.int .u8 (x.toNat : Int))).drew (fun q => q = w1.heap.size) (some ⟨w1.heap.size, 0, none⟩) (bs ((lineOf X).set k x))) := ((HB3.out.set (by rw [HML.out]; exact hkm) x).drewN 1).rd
    have B4 : Hid (Below w.heap.size w (w3.setCell ⟨w1.heap.size, k, none⟩ (.int .u8 (x.toNat : Int))).drew) := (B03.out.setCell (p := ⟨w1.heap.size, k, none⟩) hB1 _).drew
    clear CQ hxu hq0
    go_region
    go_wp2_with (first
      | (refine wpList_ofBytes rfl 23 9 5 Try.underlying23 Try.underlying9 Try.underlying5 (.tmp 57) rfl _ cap ((lineOf X).set k x) m _ rfl (by rw [List.length_set]; exact HML.out.symm) HB4.out ?_)
      | (go_at_call 14; refine (C4.out _).mono ?_; rintro e w5 ⟨A5, c5, rfl, hb⟩; have B5 := Lib.hid (B4.out.trans (hb.mono B4.out.size)); clear hb)
      | (go_at_call 13; refine (C6.out _).mono ?_; rintro e w6 ⟨rfl, hb⟩; obtain ⟨x0, x1, x2, _⟩ := box_three hb; have B6 := Lib.hid (B5.out.trans ((below_box hb).mono B5.out.size)); clear hb)
      | (go_at_call 24; refine (C8.out _ _ _).mono ?_; rintro e w7 ⟨rfl, hb⟩; have B7 := Lib.hid (B6.out.trans (hb.mono B6.out.size)); clear hb))
    go_ret
    exact ⟨rfl, B7.out⟩
theorem digits_all (t a : Int) (A : Option Addr) (d : List UInt8) (c : Nat) (p : Nat → Prop) (z y : Int) (w : World) (hz0 : 0 ≤ z) (hz1 : z ≤ 65535) (hy0 : 0 ≤ y) (hy1 : y ≤ 255) (hd' : Rd w p A (bs d)) :
    Calls Try.prog 6 #[.agg #[.int .i64 t, .int .i64 a, .slice A d.length c], .int .u16 z, .int .u8 y] w fun e w' => e = .returned (.bool true) ∧ Below w.heap.size w w' := by
  cases hr : rightB t a d.length with
  | false => exact digits_no t a A _ c z y w hr
  | true => exact digits_yes t a A d c p z y w hz0 hz1 hy0 hy1 hr hd'
end Go.Proofs.Ytilfbnfejnjaeaa
