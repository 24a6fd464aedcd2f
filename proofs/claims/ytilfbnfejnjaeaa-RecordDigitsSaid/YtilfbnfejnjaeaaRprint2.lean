/- The walk of Print of the reference of the package record. -/
import Derived.Test.YtilfbnfejnjaeaaRprint
namespace Go.Proofs.Ytilfbnfejnjaeaa
open Go.RowKit

set_option maxHeartbeats 1000000 in
theorem rprint_no (t a : Int) (A : Option Addr) (n c : Nat) (w : World) (h : rightB t a n = false) :
    Calls Try.prog 22 #[.agg #[.int .i64 t, .int .i64 a, .slice A n c]] w fun e w' => e = .returned (.tuple #[.string ⟨#[]⟩, .bool false]) ∧ Below w.heap.size w w' := by
  have C : Hid (∀ W : World, Calls Try.prog 52 #[.agg #[.int .i64 t, .int .i64 a, .slice A n c]] W fun e w' => e = .returned (.bool false) ∧ Below W.heap.size W w') := fun W => by
    have := rright_any t a A n c W
    rw [h] at this
    exact this
  clear h
  go_enter Try.func22, Try.ntmps22
  go_wp2_with (go_at_call 52; refine (C.out _).mono ?_; rintro e w1 ⟨rfl, hb⟩; have HB := Lib.hid hb; clear hb)
  go_ret2
  exact ⟨rfl, ((Below.refl _ _).alloc (Nat.le_refl _) _).trans (HB.out.mono (by simp))⟩
theorem rsum_four {X : List UInt8} {n c : Nat} {A : Option Addr} {w : World} {p : Nat → Prop} (hl : X.length = 4 + n) (hn : (n : Int) ≤ 1000) (h : Rd w p A (bs X)) :
    Calls Try.prog 20 #[.slice A (4 + n) c] w fun e w' => e = .returned (.int .u8 (ck X : Int)) ∧ w = w' := by
  rw [← hl]
  exact rsum_any A X c w p (by omega) h
theorem hex_room {t : ByteArray} {Y : List UInt8} {k n : Nat} (h : t.data.toList = 58 :: hexes (Y.take k)) (hl : Y.length = 4 + n + 1) (hn : (n : Int) ≤ 255) : t.size ≤ 1000 := by
  have h1 := str_len t
  rw [h, List.length_cons, hexes_length, List.length_take] at h1
  omega
theorem hex_next {t u : ByteArray} {Y : List UInt8} {k : Nat} {y : UInt8} (h : t.data.toList = 58 :: hexes (Y.take k)) (hy : Y[k]? = some y) (hu : (⟨(hexS (y.toNat : Int) 2).toArray⟩ : ByteArray) = u) : Hid ((t ++ u).data.toList = 58 :: hexes (Y.take (k + 1))) := by
  show _ = _
  rw [take_at hy, hexes_append, hexes_one, ByteArray.data_append, Array.toList_append, h, ← hu]
  rfl
set_option maxHeartbeats 4000000 in
theorem rprint_yes (t a : Int) (A : Option Addr) (d : List UInt8) (c : Nat) (p : Nat → Prop) (w : World) (h : rightB t a d.length = true) (hd : Rd w p A (bs d)) :
    Calls Try.prog 22 #[.agg #[.int .i64 t, .int .i64 a, .slice A d.length c]] w fun e w' => e = .returned (.tuple #[.string ⟨(lineOf (headB d.length a t ++ d)).toArray⟩, .bool true]) ∧ Below w.heap.size w w' := by
  have C : Hid (∀ W : World, Calls Try.prog 52 #[.agg #[.int .i64 t, .int .i64 a, .slice A d.length c]] W fun e w' => e = .returned (.bool true) ∧ Below W.heap.size W w') := fun W => by
    have := rright_any t a A d.length c W
    rw [h] at this
    exact this
  obtain ⟨_, _, _, _, hn⟩ := (rightB_iff _ _ _).1 h
  have CB : Hid (∀ W : World, Below w.heap.size w W → Calls Try.prog 53 #[.agg #[.int .i64 t, .int .i64 a, .slice A d.length c]] W fun e w' => ∃ A' c', e = .returned (.slice A' (4 + d.length) c') ∧ w'.ownsRow W.heap.size 5 1 (.slice A' (4 + d.length) c') (4 + d.length) (bs (headB d.length a t ++ d)) ∧ Below W.heap.size W w') := fun W hb => rhead_any t a A d c p W h (hd.after hb)
  have hXl : (headB d.length a t ++ d).length = 4 + d.length := by rw [List.length_append]; rfl
  obtain ⟨X, hX⟩ : ∃ X, headB d.length a t ++ d = X := ⟨_, rfl⟩
  rw [hX] at hXl CB
  rw [hX]
  obtain ⟨n, hnn⟩ : ∃ n, d.length = n := ⟨_, rfl⟩
  rw [hnn] at hn C CB hXl
  rw [hnn]
  have HXL := Lib.hid hXl
  clear h hd hnn hX hXl
  go_enter Try.func22, Try.ntmps22
  go_wp2_with (first
    | (go_at_call 52; refine (C.out _).mono ?_; rintro e w1 ⟨rfl, hb⟩; obtain ⟨x0, x1, x2, f0, f1, f2⟩ := box_three' hb; have HB := Lib.hid (below_box' hb); clear hb)
    | (go_at_call 53; refine (CB.out _ HB.out).mono ?_; rintro e w2 ⟨A2, c2, rfl, ho, hb⟩; have HO2 := Lib.hid ho; have HB2 := Lib.hid hb; have HBW := Lib.hid (HB.out.trans (hb.mono HB.out.size)); clear ho hb)
    | (go_at_call 20; refine (rsum_four (p := fun _ => True) HXL.out (by omega) (Rd.of_own HO2.out (fun _ _ _ => trivial))).mono ?_; rintro e w3 ⟨rfl, rfl⟩)
    | (at_builtin; go_must (refine wpList_app el_bytes rfl (.tmp 12) (.tmp 15) rfl w1.heap.size _ (4 + n) _ (fun _ => True) _ 1 1 [.int .u8 (ck X : Int)] rfl rfl (HO2.out.alloc _) rfl (Rd.new _ _ _ trivial) (by intro u hu; simp at hu; subst hu; rfl) (by simp only [maxLen]; omega) (by omega) (by have := HB2.out.size; simp; omega) ?_; intro v4 w4 hown hg hat hz; obtain ⟨A4, c4, rfl, _⟩ := own_form hown; have HO4 := Lib.hid hown; have HB4 := Lib.hid (((HBW.out.alloc HBW.out.size _).grown hg (by have := HBW.out.size; simp; omega) (fun q hq => Nat.le_trans HB.out.size (HO2.out.lt q hq).1))); clear hown hg hat hz)))
  obtain ⟨Y, hY⟩ : ∃ Y, X ++ [UInt8.ofNat (ck X)] = Y := ⟨_, rfl⟩
  have HY := Lib.hid hY
  have HYL : Hid (Y.length = 4 + n + 1) := by
    show _ = _
    rw [← hY, List.length_append, HXL.out]
    rfl
  have HR : Hid (Rd w4 (fun _ => True) A4 (bs Y)) := by
    have ho9 : w4.ownsRow w1.heap.size 5 1 (.slice A4 (4 + n + 1) c4) (4 + n + 1) (bs (X ++ [UInt8.ofNat (ck X)])) := own_snoc HO4.out (by rw [UInt8.toNat_ofNat']; have := ck_lt X; omega)
    rw [hY] at ho9
    exact Rd.of_own ho9 (fun _ _ _ => trivial)
  clear hY
  go_loop [5, 6] (fun u v => ∃ (k : Nat) (s : ByteArray), (k : Int) ≤ 4 + n + 1 ∧ v = .int .i64 k ∧ u = .string s ∧ Hid (s.data.toList = 58 :: hexes (Y.take k))) (fun _ v => 4 + n + 1 - (intOf v).toNat)
  case atStart => exact ⟨0, _, by omega, rfl, rfl, rfl⟩
  case round =>
    obtain ⟨k, s, hk, rfl, rfl, hS⟩ := hrel
    by_cases hlt : (k : Int) < 4 + n + 1
    · obtain ⟨b, o, y, rfl, _, hc, hz⟩ := HR.out.byteAt (k := k) (by rw [HYL.out]; omega)
      have HZ := Lib.hid hz
      have h255 := byte_le y
      obtain ⟨u, hu⟩ : ∃ u : ByteArray, (⟨(hexS (y.toNat : Int) 2).toArray⟩ : ByteArray) = u := ⟨_, rfl⟩
      have CH := Lib.hid (rhex_any (y.toNat : Int) 2 (by decide) w4)
      rw [hu] at CH
      have CH : Hid (Calls Try.prog 54 #[.int .i64 (y.toNat : Int), .int .i64 2] w4 fun e w' => e = .returned (.string u) ∧ w4 = w') := CH.out
      have hus : u.size = 2 := by rw [← hu, ← str_len]; exact hexS_length _ 2
      have hss := hex_room hS.out HYL.out hn
      have HU := Lib.hid hu
      clear hz hu
      go_wp2_with (go_at_call 54; refine CH.out.mono ?_; rintro e w5 ⟨rfl, rfl⟩)
      go_round
      case rel => exact ⟨k + 1, _, by omega, by go_num, rfl, hex_next hS.out HZ.out HU.out⟩
      case measure => simp [intOf]; omega
    · have HE : Hid (s = ⟨(lineOf X).toArray⟩) := by
        have := hS.out
        rw [List.take_of_length_le (by rw [HYL.out]; omega), ← HY.out] at this
        exact str_of this
      go_wp2
      go_ret2
      exact ⟨by rw [HE.out]; rfl, HB4.out⟩
end Go.Proofs.Ytilfbnfejnjaeaa
