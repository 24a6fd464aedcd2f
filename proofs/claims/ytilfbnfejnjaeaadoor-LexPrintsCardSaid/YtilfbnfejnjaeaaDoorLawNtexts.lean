/- The walk of the statement NumTexts. -/
import Derived.Test.YtilfbnfejnjaeaaDoorLawNparses
import Derived.Test.YtilfbnfejnjaeaaDoorRtext
namespace Go.Proofs.YtilfbnfejnjaeaaDoor
open Go.RowKit

theorem hd_three : ∀ d : Fin 16, hv (hd d.val) = d.val ∧ upc (hd d.val) = hd d.val ∧ ((hd d.val).toNat ≤ 57 ↔ d.val < 10) := by decide +kernel
theorem hd3 {d : Nat} (h : d < 16) : hv (hd d) = d ∧ upc (hd d) = hd d ∧ ((hd d).toNat ≤ 57 ↔ d < 10) := hd_three ⟨d, h⟩
theorem nacc_hexU (n : Nat) : n ≤ 65535 → nacc 16 0 (hexU n) = some n := by
  induction n using Nat.strongRecOn with
  | ind n ih =>
    intro hn
    by_cases h : n < 16
    · rw [hexU_small h, nacc_cons, (hd3 h).1, if_pos ⟨h, by omega⟩]
      show some (0 * 16 + n) = some n
      rw [Nat.zero_mul, Nat.zero_add]
    · rw [hexU_big h, nacc_append, ih (n / 16) (by omega) (by omega), Option.bind_some, nacc_cons, (hd3 (show n % 16 < 16 by omega)).1, if_pos ⟨by omega, by omega⟩]
      show some (n / 16 * 16 + n % 16) = some n
      congr 1
      omega
theorem hexU_up (n : Nat) : (hexU n).map upc = hexU n := by
  induction n using Nat.strongRecOn with
  | ind n ih =>
    by_cases h : n < 16
    · rw [hexU_small h, List.map_cons, (hd3 h).2.1]; rfl
    · rw [hexU_big h, List.map_append, ih (n / 16) (by omega), List.map_cons, (hd3 (show n % 16 < 16 by omega)).2.1]; rfl
theorem text_form (n : Nat) (h0 : 1 ≤ n) (h : n ≤ 65535) : ∃ c r, hexZ n = c :: r ∧ hv (upc c) < 10 ∧ nval 16 ((c :: r).map upc) = some n := by
  obtain ⟨d, h1, h2, r, hr⟩ := hexU_head n h0
  have hu := hexU_up n
  have hn := nacc_hexU n h
  rw [hr] at hu hn
  have d3 := hd3 h1
  by_cases h57 : 57 < (hd d).toNat
  · refine ⟨48, hd d :: r, by unfold hexZ; rw [hr]; dsimp only; rw [if_pos h57], by decide, ?_⟩
    have e : (48 :: hd d :: r).map upc = 48 :: hd d :: r := by rw [List.map_cons, hu]; rfl
    rw [e]
    unfold nval
    rw [if_neg (by simp), nacc_cons, if_pos ⟨by decide, by decide⟩]
    exact hn
  · refine ⟨hd d, r, by unfold hexZ; rw [hr]; dsimp only; rw [if_neg h57], ?_, ?_⟩
    · rw [d3.2.1, d3.1]
      exact d3.2.2.1 (by omega)
    · rw [hu]
      unfold nval
      rw [if_neg (by simp)]
      exact hn
theorem ptext_in (n : Int) (h0 : 0 ≤ n) (h : n ≤ 65535) : dgV (pval (textOf n)) = .tuple #[.int .i64 n, .bool true] := by
  obtain ⟨i, rfl⟩ := Int.eq_ofNat_of_zero_le h0
  have e : pval (textOf (i : Int)) = some i := by
    by_cases h9 : (i : Int) ≤ 9
    · rw [textOf, if_neg (by omega), if_pos h9, Int.toNat_natCast]
      have d3 := hd3 (show i < 16 by omega)
      refine pval_of (k := 0) (by decide) ?_
      rw [fval0, List.map_cons, d3.2.1]
      unfold nval
      rw [if_neg (by simp)]
      show nacc 10 0 (hd i :: []) = _
      rw [nacc_cons, d3.1, if_pos ⟨by omega, by omega⟩]
      show some (0 * 10 + i) = some i
      rw [Nat.zero_mul, Nat.zero_add]
    · rw [textOf, if_neg (by omega), if_neg h9, Int.toNat_natCast]
      obtain ⟨c, r, h1, h2, h3⟩ := text_form i (by omega) (by omega)
      refine pval_of (k := 3) (by decide) ?_
      rw [h1, f3_yes _ (.inr rfl), if_pos h2, h3]
  rw [e]
  rfl
theorem ptext_out (n : Int) (h : n < 0 ∨ 65535 < n) : dgV (pval (textOf n)) = .tuple #[.int .i64 0, .bool false] := by
  rw [textOf, if_pos h]
  have e : pval [] = none := by decide
  rw [e]
  rfl
set_option maxHeartbeats 1000000 in
theorem ntexts_case (n v : Int) (ok : Bool) (w : World) (hT : T16 w) (hv : dgV (pval (textOf n)) = .tuple #[.int .i64 v, .bool ok]) (hsz : (textOf n).length ≤ 100) (hc : (n < 0 ∧ ok = false) ∨ (65535 < n ∧ ok = false) ∨ (0 ≤ n ∧ n ≤ 65535 ∧ ok = true ∧ v = n)) :
    Calls Tryd.prog 4 #[.int .i64 n] w fun e w' => e = .returned (.bool true) ∧ Below w.heap.size w w' := by
  obtain ⟨S, hS⟩ : ∃ S : ByteArray, (⟨(textOf n).toArray⟩ : ByteArray) = S := ⟨_, rfl⟩
  have hSl : S.data.toList = textOf n := by rw [← hS]
  have C0 : Hid (Calls Tryd.prog 14 #[.int .i64 n] w fun e w' => e = .returned (.string S) ∧ Below w.heap.size w w') := by
    rw [← hS]
    exact text_any n w hT
  have C1 : Hid (∀ W : World, Calls Tryd.prog 12 #[.string S] W fun e w' => e = .returned (.tuple #[.int .i64 v, .bool ok]) ∧ Below W.heap.size W w') := fun W => by
    rw [← hv, ← hSl]
    exact parse_num S W (by rw [← hSl, str_len] at hsz; omega)
  have C3 : Hid (∀ W : World, Below w.heap.size w W → Calls Tryd.prog 11 #[] W fun e w' => e = .returned (.bool true) ∧ Below W.heap.size W w') := fun W hb => alive1_any W (hT.after hb (Nat.le_refl _))
  have C4 : Hid (∀ W : World, Calls Tryd.prog 15 #[.int .i64 n] W fun e w' => e = .returned (.string S) ∧ W = w') := fun W => by
    rw [← hS]
    exact rtext_any n W
  have du : (S.toList == S.toList) = true := beq_self_eq_true _
  clear hT hv hS hSl hsz
  rcases hc with ⟨h1, rfl⟩ | ⟨h1, rfl⟩ | ⟨h1, h2, rfl, rfl⟩
  all_goals
    go_enter Tryd.func4, Tryd.ntmps4
    go_wp2_with (first
      | (go_at_call 14; refine C0.out.mono ?_; rintro e w1 ⟨rfl, hb⟩; have B0 := Lib.hid hb; clear hb)
      | (go_at_call 12; refine (C1.out _).mono ?_; rintro e w1 ⟨rfl, hb⟩; have B1 := Lib.hid (B0.out.trans (hb.mono B0.out.size)); clear hb)
      | (go_at_call 11; refine (C3.out _ B1.out).mono ?_; rintro e w3 ⟨rfl, hb⟩; have B3 := Lib.hid (B1.out.trans (hb.mono B1.out.size)); clear hb)
      | (go_at_call 15; refine (C4.out _).mono ?_; rintro e w4 ⟨rfl, rfl⟩))
    go_ret
    exact ⟨rfl, B3.out⟩
theorem textOf_len (n : Int) : (textOf n).length ≤ 100 := by
  unfold textOf
  split
  · simp
  · split
    · simp
    · have h1 := hexU_len (n := n.toNat) (by omega)
      have h2 : (hexZ n.toNat).length ≤ (hexU n.toNat).length + 1 := by
        unfold hexZ
        cases hexU n.toNat with
        | nil => simp
        | cons c r => dsimp only; split <;> simp
      rw [List.length_append]
      simp
      omega
theorem ntexts_law (n : Int) (w : World) (hT : T16 w) : Calls Tryd.prog 4 #[.int .i64 n] w fun e w' => e = .returned (.bool true) ∧ Below w.heap.size w w' := by
  by_cases h : n < 0 ∨ 65535 < n
  · exact ntexts_case n 0 false w hT (ptext_out n h) (textOf_len n) (h.elim (fun h => .inl ⟨h, rfl⟩) (fun h => .inr (.inl ⟨h, rfl⟩)))
  · exact ntexts_case n n true w hT (ptext_in n (by omega) (by omega)) (textOf_len n) (.inr (.inr ⟨by omega, by omega, rfl, rfl⟩))
end Go.Proofs.YtilfbnfejnjaeaaDoor
