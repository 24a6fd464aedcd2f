/- Put of the reference, with what its cells' blocks meet said by the caller. -/
import Derived.Test.YtmkgppbnhkihjaaDoorClone
namespace Go.Proofs.YtmkgppbnhkihjaaDoor
open Go.RowKit Go.Shelf

/-- What Put of the reference hands back. -/
def RputPr (w : World) (S : Nat → Bool) (D : Nat → UInt8) (a : Int) (l : List UInt8) (pr : Nat → Prop) (e : Ending) (w' : World) : Prop :=
  ∃ A2 c2, e = .returned (.tuple #[.slice A2 (cnt (pS S a l) (pD S D a l)) c2, .int .i64 (pcode S a l)]) ∧ cnt (pS S a l) (pD S D a l) ≤ c2 ∧ Rd w' pr A2 (cl (seg (pS S a l) (pD S D a l) 0 65536)) ∧ Below w.heap.size w w'
/-- Put of the reference, every case. -/
theorem rput_pr (pr : Nat → Prop) (S : Nat → Bool) (D : Nat → UInt8) (a : Int) (A : Option Addr) (c : Nat) (A' : Option Addr) (l : List UInt8) (c' : Nat) (w : World) (p' : Nat → Prop) (hl : (l.length : Int) ≤ 65536) (hpr : ∀ q, w.heap.size ≤ q → pr q) (hc : cnt S D ≤ c)
    (hR : Rd w pr A (cl (seg S D 0 65536))) (hR' : Rd w p' A' (bs l)) :
    Calls Tryd.prog 12 #[.slice A (cnt S D) c, .int .i64 a, .slice A' l.length c'] w (RputPr w S D a l pr) := by
  have hcl : (cnt S D : Int) ≤ 65536 := by have := seg_le S D 0 65536; unfold cnt; omega
  have same : ∀ k, pcode S a l = k → k ≠ 0 → (pS S a l = S ∧ pD S D a l = D) := fun k h1 h2 => by
    unfold pS pD
    rw [h1, if_neg h2, if_neg h2]
    exact ⟨rfl, rfl⟩
  by_cases h1 : a < 0 ∨ 65536 ≤ a
  · have e : pcode S a l = 2 := by unfold pcode; rw [if_pos h1]
    obtain ⟨s1, s2⟩ := same 2 e (by decide)
    refine (rput_range _ a A' l.length c' w h1).mono fun e' w' ⟨he, hw⟩ => ?_
    subst hw
    unfold RputPr
    rw [s1, s2, e]
    exact ⟨A, c, he, hc, hR, Below.refl _ _⟩
  · obtain ⟨b, rfl⟩ := Int.eq_ofNat_of_zero_le (show 0 ≤ a by omega)
    by_cases h2 : 65536 < (b : Int) + l.length
    · have e : pcode S (b : Int) l = 10 := by unfold pcode; rw [if_neg h1, if_pos h2]
      obtain ⟨s1, s2⟩ := same 10 e (by decide)
      refine (rput_wrap _ b A' l.length c' w (by omega) (by omega) (by omega)).mono fun e' w' ⟨he, hw⟩ => ?_
      subst hw
      unfold RputPr
      rw [s1, s2, e]
      exact ⟨A, c, he, hc, hR, Below.refl _ _⟩
    · by_cases h3 : nxt S b < b + l.length
      · have e : pcode S (b : Int) l = 4 := by unfold pcode; rw [if_neg h1, if_neg h2, Int.toNat_natCast, if_pos h3]
        obtain ⟨s1, s2⟩ := same 4 e (by decide)
        obtain ⟨k1, k2⟩ := over_yes (S := S) (D := D) (a := b) (l := l) (by omega) h3
        have hl0 : 0 < l.length := by
          have := (nxt_spec S b (by omega)).ge
          omega
        refine (rput_over A (seg S D 0 65536) (cnt S D) c b A' l.length c' w _ (by omega) hl0 (by omega) rfl (by omega) hR k1 k2).mono fun e' w' ⟨he, hw⟩ => ?_
        subst hw
        unfold RputPr
        rw [s1, s2, e]
        exact ⟨A, c, he, hc, hR, Below.refl _ _⟩
      · have e : pcode S (b : Int) l = 0 := by unfold pcode; rw [if_neg h1, if_neg h2, Int.toNat_natCast, if_neg h3]
        have e1 : pS S (b : Int) l = insR S b l.length := by unfold pS; rw [e, if_pos rfl, Int.toNat_natCast]
        have e2 : pD S D (b : Int) l = wr D b l := by unfold pD; rw [e, if_pos rfl, Int.toNat_natCast]
        by_cases hl0 : l.length = 0
        · have hln : l = [] := List.eq_nil_of_length_eq_zero hl0
          subst hln
          refine (rput_none A (seg S D 0 65536) (cnt S D) c b A' c' w _ (by omega) rfl (by omega) hR).mono fun e' w' ⟨he, hw⟩ => ?_
          subst hw
          unfold RputPr
          rw [e1, e2, e, wr_nil]
          have e3 : insR S b ([] : List UInt8).length = S := insR_zero S b
          rw [e3]
          exact ⟨A, c, he, hc, hR, Below.refl _ _⟩
        · obtain ⟨k0, k1, k2, k3, k4, k5, k6⟩ := over_no (S := S) (D := D) (a := b) (l := l) (by omega) (by omega)
          refine (rput_ok A (seg S D 0 65536) (cnt S D) c b A' l c' w _ p' (by omega) (by omega) (by omega) rfl (by omega) hc hR hR' k3).mono fun e' w' ⟨v, he, hown, hb⟩ => ?_
          rw [k0, k1, k2, ← k4] at hown
          obtain ⟨A2, c2, rfl, hnc, _⟩ := own_form hown
          unfold RputPr
          rw [e1, e2, e, k5]
          exact ⟨A2, c2, he, hnc, Rd.of_own hown (fun i h1 _ => hpr i h1), hb⟩
end Go.Proofs.YtmkgppbnhkihjaaDoor
