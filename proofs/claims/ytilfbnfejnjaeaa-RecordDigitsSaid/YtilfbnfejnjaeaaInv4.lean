/- Plain Lean: a line of a record, of which one digit is replaced by one with another value, is not accepted. -/
import Derived.Test.YtilfbnfejnjaeaaInv3
namespace Go.Proofs.Ytilfbnfejnjaeaa
open Go.RowKit

theorem digit_new {e f : Nat} (he : e < 16) (hf : f < 16) (h : ¬ hd f = hd e) : e ≠ f := fun x => h (by rw [x])
theorem hexes_set : ∀ (Y : List UInt8) (j e : Nat), e < 16 → j < 2 * Y.length → (hexes Y)[j]? ≠ some (hd e) → ∃ Y', (hexes Y).set j (hd e) = hexes Y' ∧ Y'.length = Y.length ∧ tsum Y' % 256 ≠ tsum Y % 256
  | [], j, e, _, hj, _ => by simp at hj
  | y :: l, 0, e, he, _, h => by
    have hy := y.toNat_lt
    rw [hexes_cons] at h
    have hne := digit_new he (f := y.toNat / 16) (by omega) (by simpa using h)
    have ev : (UInt8.ofNat (e * 16 + y.toNat % 16)).toNat = e * 16 + y.toNat % 16 := by rw [UInt8.toNat_ofNat']; omega
    refine ⟨UInt8.ofNat (e * 16 + y.toNat % 16) :: l, ?_, by rw [List.length_cons, List.length_cons], ?_⟩
    · rw [hexes_cons, hexes_cons, List.set_cons_zero, ev, show (e * 16 + y.toNat % 16) / 16 = e from by omega, show (e * 16 + y.toNat % 16) % 16 = y.toNat % 16 from by omega]
    · have h1 : tsum (UInt8.ofNat (e * 16 + y.toNat % 16) :: l) = (e * 16 + y.toNat % 16) + tsum l := by unfold tsum; rw [List.map_cons, List.sum_cons, ev]
      have h2 : tsum (y :: l) = y.toNat + tsum l := by simp [tsum]
      rw [h1, h2]
      omega
  | y :: l, 1, e, he, _, h => by
    have hy := y.toNat_lt
    rw [hexes_cons] at h
    have hne := digit_new he (f := y.toNat % 16) (by omega) (by simpa using h)
    have ev : (UInt8.ofNat (y.toNat / 16 * 16 + e)).toNat = y.toNat / 16 * 16 + e := by rw [UInt8.toNat_ofNat']; omega
    refine ⟨UInt8.ofNat (y.toNat / 16 * 16 + e) :: l, ?_, by rw [List.length_cons, List.length_cons], ?_⟩
    · rw [hexes_cons, hexes_cons, List.set_cons_succ, List.set_cons_zero, ev, show (y.toNat / 16 * 16 + e) / 16 = y.toNat / 16 from by omega, show (y.toNat / 16 * 16 + e) % 16 = e from by omega]
    · have h1 : tsum (UInt8.ofNat (y.toNat / 16 * 16 + e) :: l) = (y.toNat / 16 * 16 + e) + tsum l := by unfold tsum; rw [List.map_cons, List.sum_cons, ev]
      have h2 : tsum (y :: l) = y.toNat + tsum l := by simp [tsum]
      rw [h1, h2]
      omega
  | y :: l, j + 2, e, he, hj, h => by
    rw [hexes_cons] at h
    obtain ⟨l', h1, h2, h3⟩ := hexes_set l j e he (by simp at hj; omega) (by simpa using h)
    refine ⟨y :: l', ?_, by simp [h2], ?_⟩
    · rw [hexes_cons, hexes_cons, List.set_cons_succ, List.set_cons_succ, h1]
    · have e1 : tsum (y :: l') = y.toNat + tsum l' := by simp [tsum]
      have e2 : tsum (y :: l) = y.toNat + tsum l := by simp [tsum]
      rw [e1, e2]
      omega
/-- The line with another digit has a code and no record. -/
theorem rec_digit {X : List UInt8} {i e : Nat} (h4 : 4 ≤ X.length) (he : e < 16) (h0 : 1 ≤ i) (hi : i < (lineOf X).length) (h : (lineOf X)[i]? ≠ some (hd e)) : ∃ k, k ≠ 0 ∧ recOf ((lineOf X).set i (hd e)) = (k, 0, 0, []) := by
  obtain ⟨j, rfl⟩ : ∃ j, i = j + 1 := ⟨i - 1, by omega⟩
  obtain ⟨Y, hY⟩ : ∃ Y, X ++ [UInt8.ofNat (ck X)] = Y := ⟨_, rfl⟩
  have hl : lineOf X = 58 :: hexes Y := by rw [← hY]; rfl
  have hc : ck Y = 0 := by rw [← hY]; exact ck_closed X
  have hYl : Y.length = X.length + 1 := by rw [← hY]; simp
  rw [hl] at hi h ⊢
  rw [List.length_cons, hexes_length] at hi
  obtain ⟨Y', h1, h2, h3⟩ := hexes_set Y j e he (by omega) (by simpa using h)
  rw [List.set_cons_succ, h1, recOf_some (b := Y') (by rw [upc_hexes, pairs_hexes]), if_neg (by omega)]
  by_cases h6 : (Y'.headD 0).toNat ≠ Y'.length - 5
  · rw [if_pos h6]; exact ⟨6, by decide, rfl⟩
  · rw [if_neg h6, if_pos (by unfold ck at hc ⊢; omega)]
    exact ⟨5, by decide, rfl⟩
end Go.Proofs.Ytilfbnfejnjaeaa
