/- The walks of letter, digit, run, word and IsWord of the reference of the package lex. -/
import Derived.Test.YtilfbnfejnjaeaaLword
namespace Go.Proofs.Ytilfbnfejnjaeaa
open Go.RowKit

theorem isL_cases (c : UInt8) : ∃ y : Int, (c.toNat : Int) = y ∧ 0 ≤ y ∧ y ≤ 255 ∧
    ((97 ≤ y ∧ y ≤ 122 ∧ isL c = true) ∨ (65 ≤ y ∧ y ≤ 90 ∧ isL c = true) ∨ (y = 95 ∧ isL c = true) ∨ (y = 46 ∧ isL c = true) ∨ (y = 63 ∧ isL c = true) ∨ (y = 64 ∧ isL c = true) ∨
     ((y == 95) = false ∧ (y == 46) = false ∧ (y == 63) = false ∧ (y == 64) = false ∧ isL c = false ∧ (y < 65 ∨ (90 < y ∧ y < 97) ∨ 122 < y))) := by
  have h := byte_le c
  refine ⟨_, rfl, by omega, h, ?_⟩
  have key : ∀ d : UInt8, c ≠ d → (c == d) = false := fun d h => by simpa using h
  by_cases h1 : 97 ≤ c.toNat ∧ c.toNat ≤ 122
  · exact .inl ⟨by omega, by omega, by unfold isL isAl; rw [decide_eq_true h1]; simp⟩
  · by_cases h2 : 65 ≤ c.toNat ∧ c.toNat ≤ 90
    · exact .inr (.inl ⟨by omega, by omega, by unfold isL isAl; rw [decide_eq_true h2]; simp⟩)
    · by_cases h3 : c = 95
      · subst h3; exact .inr (.inr (.inl ⟨rfl, rfl⟩))
      · by_cases h4 : c = 46
        · subst h4; exact .inr (.inr (.inr (.inl ⟨rfl, rfl⟩)))
        · by_cases h5 : c = 63
          · subst h5; exact .inr (.inr (.inr (.inr (.inl ⟨rfl, rfl⟩))))
          · by_cases h6 : c = 64
            · subst h6; exact .inr (.inr (.inr (.inr (.inr (.inl ⟨rfl, rfl⟩)))))
            · refine .inr (.inr (.inr (.inr (.inr (.inr ⟨byte_ne h3 rfl, byte_ne h4 rfl, byte_ne h5 rfl, byte_ne h6 rfl, ?_, by omega⟩)))))
              unfold isL isAl isPt
              rw [decide_eq_false h1, decide_eq_false h2, key _ h3, key _ h4, key _ h5, key _ h6]
              rfl
theorem rletter_any (c : UInt8) (w : World) : Calls Try.prog 82 #[.int .u8 (c.toNat : Int)] w fun e w' => e = .returned (.bool (isL c)) ∧ w = w' := by
  obtain ⟨y, hy, h0, h1, hcase⟩ := isL_cases c
  rw [hy]
  clear hy
  rcases hcase with ⟨k0, k1, h⟩ | ⟨k0, k1, h⟩ | ⟨rfl, h⟩ | ⟨rfl, h⟩ | ⟨rfl, h⟩ | ⟨rfl, h⟩ | ⟨k0, k1, k2, k3, h, k4⟩
  case inr.inr.inr.inr.inr.inr =>
    rw [h]
    clear h
    rcases k4 with k4 | ⟨k4, k5⟩ | k4
    all_goals
      go_enter Try.func82, Try.ntmps82
      go_wp2
      go_ret
      first
        | exact ⟨rfl, rfl⟩
        | exact ⟨ret_bool (by rw [decide_eq_false (by omega)]; rfl), rfl⟩
        | exact ⟨ret_bool (decide_eq_false (by omega)), rfl⟩
        | exact ⟨ret_bool (by rw [decide_eq_false (show ¬ y ≤ 122 by omega), decide_eq_false (show ¬ y ≤ 90 by omega)]; rfl), rfl⟩
  all_goals
    rw [h]
    clear h
    go_enter Try.func82, Try.ntmps82
    go_wp2
    go_ret
    first
      | exact ⟨rfl, rfl⟩
      | exact ⟨ret_bool (decide_eq_true (by omega)), rfl⟩
theorem rdigit_lex (c : UInt8) (w : World) : Calls Try.prog 85 #[.int .u8 (c.toNat : Int)] w fun e w' => e = .returned (.bool (isD c)) ∧ w = w' := by
  rcases isD_cases c with ⟨h, h0, h1⟩ | ⟨h, h0⟩ | ⟨h, h0⟩
  all_goals
    rw [h]
    clear h
    go_enter Try.func85, Try.ntmps85
    go_wp2
    go_ret
    first
      | exact ⟨rfl, rfl⟩
      | exact ⟨ret_bool (decide_eq_true (by omega)), rfl⟩
      | exact ⟨ret_bool (decide_eq_false (by omega)), rfl⟩
set_option maxHeartbeats 1000000 in
theorem rrun_any (s : ByteArray) (k : Nat) (w : World) (hs : (s.size : Int) ≤ 140737488355328) (hk : k ≤ s.size) :
    Calls Try.prog 83 #[.string s, .int .i64 (k : Int)] w fun e w' => e = .returned (.int .i64 ((k + runLen (s.data.toList.drop k) : Nat) : Int)) ∧ w = w' := by
  obtain ⟨l, hl⟩ : ∃ l, s.data.toList = l := ⟨_, rfl⟩
  have HA : Hid (∀ j (h : j < s.size), ∃ c : UInt8, s[j] = c ∧ l[j]? = some c) := by subst hl; exact fun j h => str_at s h
  have HL : Hid (l.length = s.size) := by rw [Hid, ← hl]; exact str_len s
  have CL : Hid (∀ (c : UInt8) (W : World), Calls Try.prog 82 #[.int .u8 (c.toNat : Int)] W fun e w' => e = .returned (.bool (isL c)) ∧ W = w') := fun c W => rletter_any c W
  have CD : Hid (∀ (c : UInt8) (W : World), Calls Try.prog 85 #[.int .u8 (c.toNat : Int)] W fun e w' => e = .returned (.bool (isD c)) ∧ W = w') := fun c W => rdigit_lex c W
  rw [hl]
  obtain ⟨K, hK⟩ : ∃ K, k + runLen (l.drop k) = K := ⟨_, rfl⟩
  have HK := Lib.hid hK
  rw [hK]
  clear hl hK
  go_enter Try.func83, Try.ntmps83
  go_wp2
  go_loop [1] (fun v => ∃ j : Nat, v = .int .i64 (j : Int) ∧ j ≤ s.size ∧ Hid (K = j + runLen (l.drop j))) (fun v => s.size - (intOf v).toNat)
  case atStart => exact ⟨k, rfl, hk, HK.out.symm⟩
  case round =>
    obtain ⟨j, rfl, hj, hR⟩ := hrel
    by_cases hlt : j < s.size
    · have hji : (j : Int) < (s.size : Int) := by omega
      obtain ⟨c, hc, hlc⟩ := HA.out j hlt
      have CL' := Lib.hid (CL.out c)
      have CD' := Lib.hid (CD.out c)
      by_cases hld : isLD c = true
      · have HN : Hid (K = j + 1 + runLen (l.drop (j + 1))) := by
          show _ = _
          rw [hR.out, runLen_at hlc, if_pos hld]
          omega
        rcases hb : isL c with _ | _
        · have hd : isD c = true := by
            unfold isLD at hld
            rw [hb] at hld
            exact hld
          rw [hb] at CL'
          rw [hd] at CD'
          clear hld hb hd hlc
          go_wp2_with (first
            | (go_at_call 82; refine (CL'.out _).mono ?_; rintro e w1 ⟨rfl, rfl⟩)
            | (go_at_call 85; refine (CD'.out _).mono ?_; rintro e w1 ⟨rfl, rfl⟩))
          go_round
          case rel => exact ⟨j + 1, by go_num, by omega, HN.out⟩
          case measure => simp [intOf]; omega
        · rw [hb] at CL'
          clear hld hb hlc
          go_wp2_with (go_at_call 82; refine (CL'.out _).mono ?_; rintro e w1 ⟨rfl, rfl⟩)
          go_round
          case rel => exact ⟨j + 1, by go_num, by omega, HN.out⟩
          case measure => simp [intOf]; omega
      · have hb : isL c = false ∧ isD c = false := by
          unfold isLD at hld
          simpa using hld
        obtain rfl : K = j := by
          rw [hR.out, runLen_at hlc, if_neg hld]
          rfl
        rw [hb.1] at CL'
        rw [hb.2] at CD'
        clear hld hb hlc
        go_wp2_with (first
          | (go_at_call 82; refine (CL'.out _).mono ?_; rintro e w1 ⟨rfl, rfl⟩)
          | (go_at_call 85; refine (CD'.out _).mono ?_; rintro e w1 ⟨rfl, rfl⟩))
        go_ret
        exact ⟨rfl, rfl⟩
    · have hji : (s.size : Int) ≤ (j : Int) := by omega
      obtain rfl : K = j := by
        rw [hR.out, runLen_off (by have := HL.out; omega)]
        rfl
      go_wp2
      go_ret
      exact ⟨rfl, rfl⟩
/-- The walk of word: all arms in one. -/
theorem rword_off (s : ByteArray) (k : Nat) (w : World) (hs : (s.size : Int) ≤ 140737488355328) (h : s.size ≤ k) (hk : (k : Int) ≤ 140737488355329) :
    Calls Try.prog 60 #[.string s, .int .i64 (k : Int)] w fun e w' => e = .returned (.int .i64 ((k : Nat) : Int)) ∧ Below w.heap.size w w' := by
  have hki : (s.size : Int) ≤ (k : Int) := by omega
  go_enter Try.func60, Try.ntmps60
  go_wp2
  go_ret
  exact ⟨rfl, Below.refl _ _⟩
set_option maxHeartbeats 2000000 in
theorem rword_in (s : ByteArray) (k : Nat) (w : World) (hs : (s.size : Int) ≤ 140737488355328) (hk : k < s.size) :
    Calls Try.prog 60 #[.string s, .int .i64 (k : Int)] w fun e w' => e = .returned (.int .i64 ((k + wordLen (s.data.toList.drop k) : Nat) : Int)) ∧ Below w.heap.size w w' := by
  obtain ⟨l, hl⟩ : ∃ l, s.data.toList = l := ⟨_, rfl⟩
  obtain ⟨c, hc, hlc⟩ := str_at s hk
  rw [hl] at hlc
  have hpk := pkc_at hlc
  have hki : (k : Int) < (s.size : Int) := by omega
  have CL : Hid (∀ W : World, Calls Try.prog 82 #[.int .u8 (c.toNat : Int)] W fun e w' => e = .returned (.bool (isL c)) ∧ W = w') := fun W => rletter_any c W
  obtain ⟨N, hN⟩ : ∃ N, k + wordLen (l.drop k) = N := ⟨_, rfl⟩
  rw [hl, hN]
  rcases hb : isL c with _ | _
  · rw [hb] at CL
    obtain rfl : k = N := by
      rw [← hN, wordLen_no (by rw [hpk]; exact hb)]
      rfl
    clear hl hlc hpk hN hb
    go_enter Try.func60, Try.ntmps60
    go_wp2_with (go_at_call 82; refine (CL.out _).mono ?_; rintro e w1 ⟨rfl, rfl⟩)
    go_ret
    exact ⟨rfl, Below.refl _ _⟩
  · rw [hb] at CL
    rw [← hpk] at hb
    obtain ⟨hkl, hr1⟩ := isL_in hb
    have hw := wordLen_yes hb
    have hrle := runLen_le (l.drop k)
    rw [List.length_drop] at hrle
    obtain ⟨r, hr⟩ : ∃ r, runLen (l.drop k) = r := ⟨_, rfl⟩
    rw [hr] at hr1 hw hrle
    have hLs : l.length = s.size := by rw [← hl]; exact str_len s
    obtain ⟨K, hK⟩ : ∃ K, k + r = K := ⟨_, rfl⟩
    obtain ⟨S, hS⟩ : ∃ S, s.extract k K = S := ⟨_, rfl⟩
    have hSl : S.data.toList = (l.drop k).take r := by rw [← hS, ext_mid, hl, ← hK, Nat.add_sub_cancel_left]
    have hSs : S.size = r := by rw [← str_len, hSl, List.length_take, List.length_drop]; omega
    obtain ⟨U, hU⟩ : ∃ U : ByteArray, (⟨(S.data.toList.map upc).toArray⟩ : ByteArray) = U := ⟨_, rfl⟩
    have CR : Hid (∀ W : World, Calls Try.prog 83 #[.string s, .int .i64 (k : Int)] W fun e w' => e = .returned (.int .i64 (K : Int)) ∧ W = w') := fun W => by
      have := rrun_any s k W hs (by omega)
      rw [hl, hr, hK] at this
      exact this
    have CU : Hid (∀ W : World, Calls Try.prog 84 #[.string S] W fun e w' => e = .returned (.string U) ∧ Below W.heap.size W w') := fun W => by
      have := rupper_any S W (by omega)
      rw [hU] at this
      exact this
    have hAF : isAF ((l.drop k).take r) = (U.toList == [65, 70]) := by
      rw [ByteArray.toList_eq, ← hU, hSl]
      rfl
    have hkK : (k : Int) ≤ (K : Int) := by omega
    have hKs : (K : Int) ≤ (s.size : Int) := by omega
    rw [hK] at hw
    rw [hw] at hN
    by_cases haf : isAF ((l.drop k).take r) = true
    · have d0 : (U.toList == [65, 70]) = true := by rw [← hAF]; exact haf
      by_cases hin : K < s.size
      · obtain ⟨q, hq, hlq⟩ := str_at s hin
        rw [hl] at hlq
        have hKi : (K : Int) < (s.size : Int) := by omega
        by_cases h39 : q = 39
        · have d1 : ((q.toNat : Int) == 39) = true := by rw [h39]; rfl
          rw [if_pos ⟨haf, by rw [hlq, h39]⟩] at hN
          obtain rfl : K + 1 = N := by omega
          clear hl hlc hpk hb hw hrle hr hLs hSl hU hAF haf hN h39 hlq hSs hK
          go_enter Try.func60, Try.ntmps60
          go_wp2_with (first
            | (go_at_call 82; refine (CL.out _).mono ?_; rintro e w1 ⟨rfl, rfl⟩)
            | (go_at_call 83; refine (CR.out _).mono ?_; rintro e w1 ⟨rfl, rfl⟩)
            | (go_at_call 84; refine (CU.out _).mono ?_; rintro e w1 ⟨rfl, hb⟩; have B1 := Lib.hid hb; clear hb))
          go_ret
          exact ⟨rfl, B1.out⟩
        · have d1 : ((q.toNat : Int) == 39) = false := byte_ne h39 (by decide)
          rw [if_neg (fun h => h39 (by rw [hlq] at h; exact Option.some.inj h.2))] at hN
          obtain rfl : K = N := by omega
          clear hl hlc hpk hb hw hrle hr hLs hSl hU hAF haf hN h39 hlq hSs hK
          go_enter Try.func60, Try.ntmps60
          go_wp2_with (first
            | (go_at_call 82; refine (CL.out _).mono ?_; rintro e w1 ⟨rfl, rfl⟩)
            | (go_at_call 83; refine (CR.out _).mono ?_; rintro e w1 ⟨rfl, rfl⟩)
            | (go_at_call 84; refine (CU.out _).mono ?_; rintro e w1 ⟨rfl, hb⟩; have B1 := Lib.hid hb; clear hb))
          go_ret
          exact ⟨rfl, B1.out⟩
      · have hKi : (s.size : Int) ≤ (K : Int) := by omega
        have d3 : decide ((K : Int) < (s.size : Int)) = false := decide_eq_false (by omega)
        rw [if_neg (fun h => by rw [List.getElem?_eq_none (by omega)] at h; cases h.2)] at hN
        obtain rfl : K = N := by omega
        clear hl hlc hpk hb hw hrle hr hLs hSl hU hAF haf hN hSs hK
        go_enter Try.func60, Try.ntmps60
        go_wp2_with (first
          | (go_at_call 82; refine (CL.out _).mono ?_; rintro e w1 ⟨rfl, rfl⟩)
          | (go_at_call 83; refine (CR.out _).mono ?_; rintro e w1 ⟨rfl, rfl⟩)
          | (go_at_call 84; refine (CU.out _).mono ?_; rintro e w1 ⟨rfl, hb⟩; have B1 := Lib.hid hb; clear hb))
        go_ret
        exact ⟨rfl, B1.out⟩
    · have d0 : (U.toList == [65, 70]) = false := by rw [← hAF]; simpa using haf
      rw [if_neg (fun h => haf h.1)] at hN
      obtain rfl : K = N := by omega
      clear hl hlc hpk hb hw hrle hr hLs hSl hU hAF haf hN hSs hK
      go_enter Try.func60, Try.ntmps60
      go_wp2_with (first
        | (go_at_call 82; refine (CL.out _).mono ?_; rintro e w1 ⟨rfl, rfl⟩)
        | (go_at_call 83; refine (CR.out _).mono ?_; rintro e w1 ⟨rfl, rfl⟩)
        | (go_at_call 84; refine (CU.out _).mono ?_; rintro e w1 ⟨rfl, hb⟩; have B1 := Lib.hid hb; clear hb))
      go_ret
      exact ⟨rfl, B1.out⟩
theorem rword_any (s : ByteArray) (k : Nat) (w : World) (hs : (s.size : Int) ≤ 140737488355328) (hk : k ≤ s.size) :
    Calls Try.prog 60 #[.string s, .int .i64 (k : Int)] w fun e w' => e = .returned (.int .i64 ((k + wordLen (s.data.toList.drop k) : Nat) : Int)) ∧ Below w.heap.size w w' := by
  rcases Nat.lt_or_ge k s.size with h | h
  · exact rword_in s k w hs h
  · have := rword_off s k w hs h (by omega)
    rw [List.drop_eq_nil_of_le (by rw [str_len]; exact h)]
    exact this
end Go.Proofs.Ytilfbnfejnjaeaa
