/- The walk of Text of the reference of the package num. -/
import Derived.Test.YtilfbnfejnjaeaaDoorText
namespace Go.Proofs.YtilfbnfejnjaeaaDoor
open Go.RowKit

theorem hd_zero : ∀ d : Fin 16, (hd d.val == 48) = decide (d.val = 0) := by decide +kernel
theorem hdz {d : Nat} (h : d < 16) : (hd d == 48) = decide (d = 0) := hd_zero ⟨d, h⟩
theorem hd_big : ∀ d : Fin 16, (57 < (hd d.val).toNat ↔ 65 ≤ (hd d.val).toNat) := by decide +kernel
theorem hexS_four (n : Nat) (h : n ≤ 65535) : hexS (n : Int) 4 = [hd (n / 4096), hd (n / 256 % 16), hd (n / 16 % 16), hd (n % 16)] := by
  have e3 : ((n : Int) / (16 : Int) ^ 3 % 16).toNat = n / 4096 := by
    rw [show (16 : Int) ^ 3 = 4096 from rfl]; omega
  have e2 : ((n : Int) / (16 : Int) ^ 2 % 16).toNat = n / 256 % 16 := by
    rw [show (16 : Int) ^ 2 = 256 from rfl]; omega
  have e1 : ((n : Int) / (16 : Int) ^ 1 % 16).toNat = n / 16 % 16 := by
    rw [show (16 : Int) ^ 1 = 16 from rfl]; omega
  have e0 : ((n : Int) / (16 : Int) ^ 0 % 16).toNat = n % 16 := by
    rw [show (16 : Int) ^ 0 = 1 from rfl]; omega
  rw [hexS, hexS, hexS, hexS, hexS, e3, e2, e1, e0]
theorem strip_hexS (n : Nat) (h0 : 1 ≤ n) (h : n ≤ 65535) : (hexS (n : Int) 4).dropWhile (· == 48) = hexU n := by
  rw [hexS_four n h]
  have z0 : (hd 0 == 48) = true := by decide
  by_cases h1 : n < 16
  · rw [hexU_small h1, show n / 4096 = 0 from by omega, show n / 256 % 16 = 0 from by omega, show n / 16 % 16 = 0 from by omega, show n % 16 = n from by omega]
    have := hdz h1
    rw [decide_eq_false (by omega)] at this
    simp [List.dropWhile, z0, this]
  · rw [hexU_big h1]
    by_cases h2 : n / 16 < 16
    · rw [hexU_small h2, show n / 4096 = 0 from by omega, show n / 256 % 16 = 0 from by omega, show n / 16 % 16 = n / 16 from by omega]
      have := hdz h2
      rw [decide_eq_false (by omega)] at this
      simp [List.dropWhile, z0, this]
    · rw [hexU_big h2]
      by_cases h3 : n / 16 / 16 < 16
      · rw [hexU_small h3, show n / 4096 = 0 from by omega, show n / 256 % 16 = n / 16 / 16 from by omega]
        have := hdz h3
        rw [decide_eq_false (by omega)] at this
        simp [List.dropWhile, z0, this]
      · rw [hexU_big h3, hexU_small (show n / 16 / 16 / 16 < 16 by omega), show n / 4096 = n / 16 / 16 / 16 from by omega, show n / 256 % 16 = n / 16 / 16 % 16 from by omega]
        have := hdz (show n / 16 / 16 / 16 < 16 by omega)
        rw [decide_eq_false (by omega)] at this
        simp [List.dropWhile, this]
theorem rtext_out (n : Int) (w : World) (h : n < 0 ∨ 65535 < n) :
    Calls Tryd.prog 15 #[.int .i64 n] w fun e w' => e = .returned (.string ⟨(textOf n).toArray⟩) ∧ w = w' := by
  have HT : Hid (textOf n = []) := by show _ = _; rw [textOf, if_pos h]
  rw [HT.out]
  clear HT
  rcases h with h | h
  all_goals
    go_enter Tryd.func15, Tryd.ntmps15
    go_wp2
    go_ret
    exact ⟨rfl, rfl⟩
theorem rtext_small (i : Nat) (w : World) (h : (i : Int) ≤ 9) :
    Calls Tryd.prog 15 #[.int .i64 (i : Int)] w fun e w' => e = .returned (.string ⟨(textOf (i : Int)).toArray⟩) ∧ w = w' := by
  have C2 : Hid (Calls Tryd.prog 27 #[.int .i64 (i : Int), .int .i64 1] w fun e w' => e = .returned (.string ⟨(textOf (i : Int)).toArray⟩) ∧ w = w') := by
    have := rhex_any (i : Int) 1 (by decide) w
    rw [textOf, if_neg (by omega), if_pos h, Int.toNat_natCast]
    have e0 : ((i : Int) / (16 : Int) ^ 0 % 16).toNat = i := by
      rw [show (16 : Int) ^ 0 = 1 from rfl]; omega
    have e : hexS (i : Int) 1 = [hd i] := by rw [hexS, hexS, e0]
    rw [e] at this
    exact this
  obtain ⟨s, hs⟩ : ∃ s : ByteArray, (⟨(textOf (i : Int)).toArray⟩ : ByteArray) = s := ⟨_, rfl⟩
  rw [hs] at C2
  rw [hs]
  clear hs
  go_enter Tryd.func15, Tryd.ntmps15
  go_wp2_with (go_at_call 27; refine C2.out.mono ?_; rintro e w1 ⟨rfl, rfl⟩)
  go_ret
  exact ⟨rfl, rfl⟩
theorem tail_of {t : ByteArray} {c : UInt8} {r : List UInt8} (h : t.data.toList = c :: r) : (t.extract 1 t.size).data.toList = r := by
  rw [ByteArray.data_extract, Array.toList_extract]
  simp only [List.extract_eq_take_drop]
  rw [h, List.drop_succ_cons, List.drop_zero, List.take_of_length_le]
  have := str_len t
  rw [h] at this
  simp at this
  omega
set_option maxHeartbeats 2000000 in
theorem rtext_big (n : Nat) (w : World) (h : 9 < (n : Int)) (hn : (n : Int) ≤ 65535) :
    Calls Tryd.prog 15 #[.int .i64 (n : Int)] w fun e w' => e = .returned (.string ⟨(textOf (n : Int)).toArray⟩) ∧ w = w' := by
  obtain ⟨k, hk16, hk1, r, hU⟩ := hexU_head n (by omega)
  obtain ⟨c, hc⟩ : ∃ c, hd k = c := ⟨_, rfl⟩
  rw [hc] at hU
  have hstrip := strip_hexS n (by omega) (by omega)
  rw [hU] at hstrip
  have hc48 : (c == 48) = false := by
    have := hdz hk16
    rw [hc, decide_eq_false (by omega)] at this
    exact this
  have hbig : 57 < c.toNat ↔ 65 ≤ c.toNat := by
    have := hd_big ⟨k, hk16⟩
    simpa [hc] using this
  have ht : textOf (n : Int) = if 57 < c.toNat then 48 :: (c :: (r ++ [72])) else c :: (r ++ [72]) := by
    rw [textOf, if_neg (by omega), if_neg (by omega), Int.toNat_natCast]
    unfold hexZ
    rw [hU]
    dsimp only
    split <;> rfl
  obtain ⟨y, hy⟩ : ∃ y : Int, (c.toNat : Int) = y := ⟨_, rfl⟩
  have H1 : Hid (65 ≤ y → ∀ t : ByteArray, t.data.toList = c :: r → (⟨(textOf (n : Int)).toArray⟩ : ByteArray) = (⟨#[48]⟩ ++ t) ++ ⟨#[72]⟩) := fun h t h2 => by
    rw [ht, if_pos (by omega)]
    apply ByteArray.ext
    rw [ByteArray.data_append, ByteArray.data_append]
    apply Array.toList_inj.1
    rw [Array.toList_append, Array.toList_append, h2]
    rfl
  have H2 : Hid (y < 65 → ∀ t : ByteArray, t.data.toList = c :: r → (⟨(textOf (n : Int)).toArray⟩ : ByteArray) = t ++ ⟨#[72]⟩) := fun h t h2 => by
    rw [ht, if_neg (by omega)]
    apply ByteArray.ext
    rw [ByteArray.data_append]
    apply Array.toList_inj.1
    rw [Array.toList_append, h2]
    rfl
  obtain ⟨F, hF⟩ : ∃ F : ByteArray, (⟨(hexS (n : Int) 4).toArray⟩ : ByteArray) = F := ⟨_, rfl⟩
  have C : Hid (Calls Tryd.prog 27 #[.int .i64 (n : Int), .int .i64 4] w fun e w' => e = .returned (.string F) ∧ w = w') := by
    rw [← hF]
    exact rhex_any (n : Int) 4 (by decide) w
  have HF : Hid (F.data.toList.dropWhile (· == 48) = c :: r) := by
    show _ = _
    rw [← hF]
    exact hstrip
  have hF4 : F.size ≤ 4 := by
    rw [← str_len, ← hF]
    exact Nat.le_of_eq (hexS_length _ 4)
  obtain ⟨R, hR⟩ : ∃ R : ByteArray, (⟨(textOf (n : Int)).toArray⟩ : ByteArray) = R := ⟨_, rfl⟩
  rw [hR] at H1 H2
  rw [hR]
  have HC := Lib.hid hc48
  have HY := Lib.hid hy
  clear hF hU hc hstrip hc48 hbig ht hR hy hk16 hk1
  go_enter Tryd.func15, Tryd.ntmps15
  go_wp2_with (go_at_call 27; refine C.out.mono ?_; rintro e w1 ⟨rfl, rfl⟩)
  go_loop [3] (fun v => ∃ t : ByteArray, v = .string t ∧ t.size ≤ 4 ∧ Hid (t.data.toList.dropWhile (· == 48) = c :: r)) (fun v => match v with | .string t => t.size | _ => 0)
  case atStart => exact ⟨F, rfl, hF4, HF.out⟩
  case round =>
    obtain ⟨t, rfl, ht4, hT⟩ := hrel
    cases hx : t.data.toList with
    | nil => have := hT.out; rw [hx] at this; cases this
    | cons a q =>
      have h0 : 0 < t.size := by rw [← str_len, hx]; simp
      have hz : t[0] = a := by
        obtain ⟨c', h1, h2⟩ := str_at t h0
        rw [hx] at h2
        rw [h1, ← Option.some.inj h2]
      by_cases ha : a = 48
      · have d1 : ((a.toNat : Int) == 48) = true := by rw [ha]; rfl
        have HN : Hid ((t.extract 1 t.size).data.toList.dropWhile (· == 48) = c :: r) := by
          have := hT.out
          rw [hx, ha, List.dropWhile_cons_of_pos (by decide)] at this
          show _ = _
          rw [tail_of hx]
          exact this
        have HSZ : Hid ((t.extract 1 t.size).size < t.size) := by
          show _ < _
          have k1 := str_len (t.extract 1 t.size)
          have k2 := str_len t
          rw [tail_of hx] at k1
          rw [hx, List.length_cons] at k2
          omega
        have HS1 : 1 ≤ t.size := h0
        clear hx ha
        go_wp2
        go_round
        case rel => exact ⟨_, rfl, by have := HSZ.out; omega, HN.out⟩
        case measure => exact HSZ.out
      · have d1 : ((a.toNat : Int) == 48) = false := by
          rw [beq_eq_false_iff_ne]
          intro h2
          apply ha
          apply UInt8.toNat_inj.1
          show a.toNat = 48
          omega
        have hxx : t.data.toList = c :: r := by
          have := hT.out
          rw [hx, List.dropWhile_cons_of_neg (by simpa using ha)] at this
          rw [hx]
          exact this
        have hac : a = c := by rw [hx] at hxx; injection hxx
        have hzc : (a.toNat : Int) = y := by rw [hac]; exact HY.out
        have HX := Lib.hid hxx
        clear hx ha hxx hac
        by_cases h65 : 65 ≤ y
        · have HR := Lib.hid (H1.out h65 t HX.out)
          go_wp2
          go_ret
          exact ⟨by rw [HR.out]; rfl, rfl⟩
        · have HR := Lib.hid (H2.out (by omega) t HX.out)
          go_wp2
          go_ret
          exact ⟨by rw [HR.out]; rfl, rfl⟩
theorem rtext_any (n : Int) (w : World) : Calls Tryd.prog 15 #[.int .i64 n] w fun e w' => e = .returned (.string ⟨(textOf n).toArray⟩) ∧ w = w' := by
  by_cases h : n < 0 ∨ 65535 < n
  · exact rtext_out n w h
  · obtain ⟨i, rfl⟩ := Int.eq_ofNat_of_zero_le (show 0 ≤ n by omega)
    by_cases h9 : (i : Int) ≤ 9
    · exact rtext_small i w h9
    · exact rtext_big i w (by omega) (by omega)
end Go.Proofs.YtilfbnfejnjaeaaDoor
