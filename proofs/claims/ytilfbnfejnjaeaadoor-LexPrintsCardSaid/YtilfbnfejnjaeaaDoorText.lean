/- The walks of Text of the package num and of its reference. -/
import Derived.Test.YtilfbnfejnjaeaaDoorFmt
import Derived.Test.YtilfbnfejnjaeaaDoorHex
import Derived.Test.YtilfbnfejnjaeaaDoorShelf
namespace Go.Proofs.YtilfbnfejnjaeaaDoor
open Go.RowKit

theorem ifmt_any (n : Nat) (w : World) (hn : (n : Int) ≤ 65535) (h : T16 w) :
    Calls Tryd.prog 55 #[.int .i64 (n : Int), .int .i64 16] w fun e w' => e = .returned (.string ⟨(hexL n).toArray⟩) ∧ Below w.heap.size w w' := by
  have C := Lib.hid (fbits_any n w hn h)
  clear h
  go_enter Tryd.func55, Tryd.ntmps55
  go_wp2_with (go_at_call 75; refine C.out.mono ?_; rintro e w1 ⟨rfl, hb⟩; have HB := Lib.hid hb; clear hb)
  go_ret
  exact ⟨rfl, HB.out⟩
theorem fmt_any (n : Nat) (w : World) (hn : (n : Int) ≤ 65535) (h : T16 w) :
    Calls Tryd.prog 43 #[.int .i64 (n : Int), .int .i64 16] w fun e w' => e = .returned (.string ⟨(hexL n).toArray⟩) ∧ Below w.heap.size w w' := by
  have C := Lib.hid (ifmt_any n w hn h)
  clear h
  go_enter Tryd.func43, Tryd.ntmps43
  go_wp2_with (go_at_call 55; refine C.out.mono ?_; rintro e w1 ⟨rfl, hb⟩; have HB := Lib.hid hb; clear hb)
  go_ret
  exact ⟨rfl, HB.out⟩
/-- The capital digits of n. -/
def hexU (n : Nat) : List UInt8 := if n < 16 then [hd n] else hexU (n / 16) ++ [hd (n % 16)]
theorem hexU_small {n : Nat} (h : n < 16) : hexU n = [hd n] := by rw [hexU, if_pos h]
theorem hexU_big {n : Nat} (h : ¬ n < 16) : hexU n = hexU (n / 16) ++ [hd (n % 16)] := by rw [hexU, if_neg h]
theorem ld_up : ∀ d : Fin 16, upc (ld d.val) = hd d.val := by decide +kernel
theorem hexL_up (n : Nat) : (hexL n).map upc = hexU n := by
  induction n using Nat.strongRecOn with
  | ind n ih =>
    by_cases h : n < 16
    · rw [hexL_small h, hexU_small h]
      simp only [List.map_cons, List.map_nil]
      rw [ld_up ⟨n, h⟩]
    · rw [hexL_big h, hexU_big h, List.map_append, ih (n / 16) (by omega)]
      simp only [List.map_cons, List.map_nil]
      rw [ld_up ⟨n % 16, by omega⟩]
theorem hexL_pos (n : Nat) : 0 < (hexL n).length := by
  by_cases h : n < 16
  · rw [hexL_small h]; exact Nat.one_pos
  · rw [hexL_big h]; simp
theorem hexU_head : ∀ n : Nat, 1 ≤ n → ∃ d, d < 16 ∧ 1 ≤ d ∧ ∃ r, hexU n = hd d :: r := by
  intro n
  induction n using Nat.strongRecOn with
  | ind n ih =>
    intro h1
    by_cases h : n < 16
    · exact ⟨n, h, h1, [], hexU_small h⟩
    · obtain ⟨d, h2, h3, r, hr⟩ := ih (n / 16) (by omega) (by omega)
      exact ⟨d, h2, h3, r ++ [hd (n % 16)], by rw [hexU_big h, hr]; rfl⟩
/-- The digits of a number that is printed with H: a zero ahead of a letter. -/
def hexZ (n : Nat) : List UInt8 := match hexU n with
  | [] => []
  | c :: r => if 57 < c.toNat then 48 :: c :: r else c :: r
/-- The form in which a number is printed. -/
def textOf (n : Int) : List UInt8 := if n < 0 ∨ 65535 < n then [] else if n ≤ 9 then [hd n.toNat] else hexZ n.toNat ++ [72]
theorem hexU_len {n : Nat} (h : n ≤ 65535) : (hexU n).length ≤ 4 := by
  by_cases h1 : n < 16
  · rw [hexU_small h1]; simp
  · rw [hexU_big h1]
    by_cases h2 : n / 16 < 16
    · rw [hexU_small h2]; simp
    · rw [hexU_big h2]
      by_cases h3 : n / 16 / 16 < 16
      · rw [hexU_small h3]; simp
      · rw [hexU_big h3, hexU_small (show n / 16 / 16 / 16 < 16 by omega)]; simp
theorem dec_small : ∀ i : Fin 10, Lib.decDigits i.val = [hd i.val] := by decide +kernel
theorem fits_one (n : Int) (W : World) (g : Nat) (hg : W.heap.size = g) (x : Bool) (hx : decide (0 ≤ n ∧ n ≤ 65535) = x) : Calls Tryd.prog 23 #[.int .i64 0, .int .i64 65535, .slice (some ⟨g, 0, none⟩) 1 1] (W.alloc (.cells #[.int .i64 n] 3)) fun e w' => e = .returned (.bool x) ∧ W.alloc (.cells #[.int .i64 n] 3) = w' := by
  subst hg
  have := fits_any 0 65535 _ [n] 1 _ (fun _ => True) (by simp) (Rd.new W #[.int .i64 n] 3 trivial)
  have e : fits 0 65535 [n] = x := by rw [← hx, Bool.eq_iff_iff]; simp [fits]
  rw [e] at this
  exact this
theorem text_out (n : Int) (w : World) (h : n < 0 ∨ 65535 < n) :
    Calls Tryd.prog 14 #[.int .i64 n] w fun e w' => e = .returned (.string ⟨(textOf n).toArray⟩) ∧ Below w.heap.size w w' := by
  have C1 := Lib.hid (fits_one n w _ rfl false (by simp; omega))
  have HT : Hid (textOf n = []) := by show _ = _; rw [textOf, if_pos h]
  rw [HT.out]
  clear h
  go_enter Tryd.func14, Tryd.ntmps14
  go_wp2_with (go_at_call 23; refine C1.out.mono ?_; rintro e w1 ⟨rfl, rfl⟩)
  go_ret
  exact ⟨rfl, (Below.refl _ _).alloc (Nat.le_refl _) _⟩
theorem text_small (i : Nat) (w : World) (h : (i : Int) ≤ 9) :
    Calls Tryd.prog 14 #[.int .i64 (i : Int)] w fun e w' => e = .returned (.string ⟨(textOf (i : Int)).toArray⟩) ∧ Below w.heap.size w w' := by
  have C1 := Lib.hid (fits_one (i : Int) w _ rfl true (by simp; omega))
  have C2 : Hid (∀ W : World, Calls Tryd.prog 42 #[.int .i64 (i : Int)] W fun e w' => e = .returned (.string ⟨(textOf (i : Int)).toArray⟩) ∧ w' = W) := fun W => by
    have := Tryd.strconv_Itoa_small i (by omega) W
    rw [dec_small ⟨i, by omega⟩] at this
    rw [textOf, if_neg (by omega), if_pos h]
    exact this
  obtain ⟨s, hs⟩ : ∃ s : ByteArray, (⟨(textOf (i : Int)).toArray⟩ : ByteArray) = s := ⟨_, rfl⟩
  rw [hs] at C2
  rw [hs]
  clear hs
  go_enter Tryd.func14, Tryd.ntmps14
  go_wp2_with (first
    | (go_at_call 23; refine C1.out.mono ?_; rintro e w1 ⟨rfl, rfl⟩)
    | (go_at_call 42; refine (C2.out _).mono ?_; rintro e w1 ⟨rfl, rfl⟩))
  go_ret
  exact ⟨rfl, (Below.refl _ _).alloc (Nat.le_refl _) _⟩
set_option maxHeartbeats 1000000 in
theorem text_big (n : Nat) (w : World) (h : 9 < (n : Int)) (hn : (n : Int) ≤ 65535) (hT : T16 w) :
    Calls Tryd.prog 14 #[.int .i64 (n : Int)] w fun e w' => e = .returned (.string ⟨(textOf (n : Int)).toArray⟩) ∧ Below w.heap.size w w' := by
  have C1 := Lib.hid (fits_one (n : Int) w _ rfl true (by simp; omega))
  have HA : Hid (Below w.heap.size w (w.alloc (.cells #[.int .i64 (n : Int)] 3))) := (Below.refl _ _).alloc (Nat.le_refl _) _
  obtain ⟨F, hF⟩ : ∃ F : ByteArray, (⟨(hexL n).toArray⟩ : ByteArray) = F := ⟨_, rfl⟩
  obtain ⟨U, hU⟩ : ∃ U : ByteArray, (⟨(hexU n).toArray⟩ : ByteArray) = U := ⟨_, rfl⟩
  have hUl : U.data.toList = hexU n := by rw [← hU]
  have C2 : Hid (∀ W : World, Below w.heap.size w W → Calls Tryd.prog 43 #[.int .i64 (n : Int), .int .i64 16] W fun e w' => e = .returned (.string F) ∧ Below W.heap.size W w') := fun W hb => by
    have := fmt_any n W hn (hT.after hb (Nat.le_refl _))
    rw [hF] at this
    exact this
  have hFl : F.data.toList = hexL n := by rw [← hF]
  have hFs : F.size ≤ 4 := by
    rw [← str_len, hFl]
    have := hexU_len (n := n) (by omega)
    rw [← hexL_up, List.length_map] at this
    exact this
  have C3 : Hid (∀ W : World, Calls Tryd.prog 16 #[.string F] W fun e w' => e = .returned (.string U) ∧ Below W.heap.size W w') := fun W => by
    have := upper_any F W (by unfold maxLen; omega)
    rw [hFl, hexL_up, hU] at this
    exact this
  obtain ⟨c, r, hcr⟩ : ∃ c r, hexU n = c :: r := by
    obtain ⟨d, _, _, r, h⟩ := hexU_head n (by omega)
    exact ⟨_, r, h⟩
  have hUs : U.size ≤ 4 := by rw [← str_len, hUl]; exact hexU_len (by omega)
  obtain ⟨S, hS⟩ : ∃ S : ByteArray, U ++ ⟨#[72]⟩ = S := ⟨_, rfl⟩
  have hSl : S.data.toList = c :: (r ++ [72]) := by rw [← hS, ByteArray.data_append, Array.toList_append, hUl, hcr]; rfl
  have hS0 : 0 < S.size := by rw [← str_len, hSl]; simp
  have hS4 : S.size ≤ 10 := by rw [← hS, ByteArray.size_append]; show U.size + 1 ≤ 10; omega
  have hz : S[0] = c := by
    obtain ⟨c', h1, h2⟩ := str_at S hS0
    rw [hSl] at h2
    rw [h1, ← Option.some.inj h2]
  have ht : textOf (n : Int) = if 57 < c.toNat then 48 :: (c :: (r ++ [72])) else c :: (r ++ [72]) := by
    rw [textOf, if_neg (by omega), if_neg (by omega), Int.toNat_natCast]
    unfold hexZ
    rw [hcr]
    dsimp only
    split <;> rfl
  obtain ⟨y, hy⟩ : ∃ y : Int, (c.toNat : Int) = y := ⟨_, rfl⟩
  have H1 : Hid (57 < y → (⟨(textOf (n : Int)).toArray⟩ : ByteArray) = ⟨#[48]⟩ ++ S) := fun h => by
    rw [ht, if_pos (by omega), ← hSl]
    apply ByteArray.ext
    rw [ByteArray.data_append]
    apply Array.toList_inj.1
    rw [Array.toList_append]
    rfl
  have H2 : Hid (y ≤ 57 → (⟨(textOf (n : Int)).toArray⟩ : ByteArray) = S) := fun h => by
    rw [ht, if_neg (by omega), ← hSl]
  obtain ⟨R, hR⟩ : ∃ R : ByteArray, (⟨(textOf (n : Int)).toArray⟩ : ByteArray) = R := ⟨_, rfl⟩
  rw [hR] at H1 H2
  rw [hR]
  clear hF hU hUl hFl hcr hSl ht hR hT
  by_cases h57 : 57 < y
  · have HR := Lib.hid (H1.out h57)
    clear H1 H2
    go_enter Tryd.func14, Tryd.ntmps14
    go_wp2_with (first
      | (go_at_call 23; refine C1.out.mono ?_; rintro e w1 ⟨rfl, rfl⟩)
      | (go_at_call 43; refine (C2.out _ HA.out).mono ?_; rintro e w2 ⟨rfl, hb⟩; have B2 := Lib.hid (HA.out.trans (hb.mono HA.out.size)); clear hb)
      | (go_at_call 16; refine (C3.out _).mono ?_; rintro e w3 ⟨rfl, hb⟩; have B3 := Lib.hid (B2.out.trans (hb.mono B2.out.size)); clear hb))
    go_ret
    exact ⟨by rw [HR.out]; rfl, B3.out⟩
  · have HR := Lib.hid (H2.out (by omega))
    clear H1 H2
    go_enter Tryd.func14, Tryd.ntmps14
    go_wp2_with (first
      | (go_at_call 23; refine C1.out.mono ?_; rintro e w1 ⟨rfl, rfl⟩)
      | (go_at_call 43; refine (C2.out _ HA.out).mono ?_; rintro e w2 ⟨rfl, hb⟩; have B2 := Lib.hid (HA.out.trans (hb.mono HA.out.size)); clear hb)
      | (go_at_call 16; refine (C3.out _).mono ?_; rintro e w3 ⟨rfl, hb⟩; have B3 := Lib.hid (B2.out.trans (hb.mono B2.out.size)); clear hb))
    go_ret
    exact ⟨by rw [HR.out]; rfl, B3.out⟩
/-- Text of the package num. -/
theorem text_any (n : Int) (w : World) (hT : T16 w) : Calls Tryd.prog 14 #[.int .i64 n] w fun e w' => e = .returned (.string ⟨(textOf n).toArray⟩) ∧ Below w.heap.size w w' := by
  by_cases h : n < 0 ∨ 65535 < n
  · exact text_out n w h
  · obtain ⟨i, rfl⟩ := Int.eq_ofNat_of_zero_le (show 0 ≤ n by omega)
    by_cases h9 : (i : Int) ≤ 9
    · exact text_small i w h9
    · exact text_big i w (by omega) (by omega) hT
end Go.Proofs.YtilfbnfejnjaeaaDoor
