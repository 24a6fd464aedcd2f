/- The walk of the reference's Few. -/
import Derived.Test.YtmkgppbnhkihjaaDoorRows
import Derived.Test.YtmkgppbnhkihjaaDoorRunv
namespace Go.Proofs.YtmkgppbnhkihjaaDoor
open Go.RowKit

/-- The sum of lengths, each 5000 at most. -/
def tot (R : List (Int × List UInt8)) : Nat := (R.map fun r => min r.2.length 5000).sum
theorem tot_snoc (R : List (Int × List UInt8)) (r : Int × List UInt8) : tot (R ++ [r]) = tot R + min r.2.length 5000 := by simp [tot]
theorem tot_le (R : List (Int × List UInt8)) : tot R ≤ 5000 * R.length := by
  induction R with
  | nil => simp [tot]
  | cons r R ih => simp only [tot, List.map_cons, List.sum_cons, List.length_cons] at ih ⊢; omega
def few (R : List (Int × List UInt8)) : Bool := decide (R.length ≤ 60) && decide (tot R ≤ 3000)
theorem take_snoc' {α : Type} (l : List α) (k : Nat) (h : k < l.length) : l.take (k + 1) = l.take k ++ [l[k]] := by rw [List.take_succ_eq_append_getElem h]

theorem few_step {T d a b m : Nat} (hd : m = d) (hT : b = T) (h : a = b + min m 5000) : Value.int .i64 ((T : Int) + if (5000 : Int) < (d : Int) then 5000 else (d : Int)) = .int .i64 ((a : Nat) : Int) := by
  congr 1
  split <;> omega
theorem few_any (A : Option Addr) (xs : List Value) (R : List (Int × List UInt8)) (n c : Nat) (w : World) (p q : Nat → Prop) (hn : n = R.length) (hm : (n : Int) ≤ 281474976710656) (h : Rd w p A xs) (hR : RunVals w q xs R) :
    Calls Tryd.prog 9 #[.slice A n c] w fun e w' => e = .returned (.bool (few R)) ∧ w = w' := by
  have HN := Lib.hid hn
  clear hn
  go_enter Tryd.func9, Tryd.ntmps9
  go_wp2
  go_loop [3, 4] (fun u v => ∃ k : Nat, k ≤ n ∧ v = .int .i64 k ∧ u = .int .i64 (tot (R.take k))) (fun _ v => n - (intOf v).toNat)
  case atStart => exact ⟨0, Nat.zero_le _, rfl, rfl⟩
  case round =>
    obtain ⟨k, hk, rfl, rfl⟩ := hrel
    by_cases hlt : k < n
    · have hkr : k < R.length := by rw [← HN.out]; exact hlt
      obtain ⟨b, o, B, cb, rfl, _, hc1, hc2, _⟩ := h.run hR hkr
      have ht := tot_le (R.take k)
      have htk : (R.take k).length ≤ k := List.length_take_le _ _
      have hs : Hid (tot (R.take (k + 1)) = tot (R.take k) + min R[k].2.length 5000) := by rw [take_snoc' R k hkr, tot_snoc]; rfl
      obtain ⟨T, hT⟩ : ∃ T, tot (R.take k) = T := ⟨_, rfl⟩
      obtain ⟨d, hd⟩ : ∃ d, R[k].2.length = d := ⟨_, rfl⟩
      simp only [hd] at hc2
      rw [hT] at ht
      have HD := Lib.hid hd
      have HTT := Lib.hid hT
      have d1 : decide (((k : Nat) : Int) < (n : Int)) = true := by simp; omega
      have hT2 : (T : Int) ≤ 5000 * k := by omega
      clear h hR hc1 ht htk hd
      go_wp2
      exact ⟨⟨k + 1, by omega, by go_num, few_step HD.out HTT.out hs.out⟩, by simp [intOf]; omega⟩
    · have d1 : decide (((k : Nat) : Int) < (n : Int)) = false := by simp; omega
      obtain rfl : k = n := by omega
      have e : R.take k = R := List.take_of_length_le (by rw [← HN.out]; exact Nat.le_refl _)
      obtain ⟨T, hT⟩ : ∃ T, tot (R.take k) = T := ⟨_, rfl⟩
      rw [hT]
      have ht : Hid (tot R = T) := by rw [Hid, ← hT, e]
      have hnl := HN.out
      clear h hR hT e
      by_cases h1 : R.length ≤ 60
      · have d2 : decide (((k : Nat) : Int) ≤ 60) = true := by simp; omega
        by_cases h2 : T ≤ 3000
        · have d3 : decide (((T : Nat) : Int) ≤ 3000) = true := by simp; omega
          have hf : Hid (few R = true) := by rw [Hid, few, ht.out]; simp [h1, h2]
          clear hnl h1 h2
          go_wp2
          go_ret
          exact ⟨ret_bool hf.out.symm, rfl⟩
        · have d3 : decide (((T : Nat) : Int) ≤ 3000) = false := by simp; omega
          have hf : Hid (few R = false) := by rw [Hid, few, ht.out]; simp [h2]
          clear hnl h1 h2
          go_wp2
          go_ret
          exact ⟨ret_bool hf.out.symm, rfl⟩
      · have d2 : decide (((k : Nat) : Int) ≤ 60) = false := by simp; omega
        have hf : Hid (few R = false) := by rw [Hid, few]; simp [h1]
        clear hnl h1
        go_wp2
        go_ret
        exact ⟨ret_bool hf.out.symm, rfl⟩
end Go.Proofs.YtmkgppbnhkihjaaDoor
