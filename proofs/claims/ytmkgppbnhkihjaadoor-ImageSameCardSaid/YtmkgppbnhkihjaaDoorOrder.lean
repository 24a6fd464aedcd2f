/- Plain facts: runs that can be put in one order can be put in any order, and lead to the same image. -/
import Derived.Test.YtmkgppbnhkihjaaDoorOf
namespace Go.Proofs.YtmkgppbnhkihjaaDoor

theorem pcode_zero {S : Nat → Bool} {a : Int} {l : List UInt8} (h : pcode S a l = 0) : ∃ b : Nat, a = b ∧ b + l.length ≤ 65536 ∧ b < 65536 ∧ ∀ x, b ≤ x → x < b + l.length → S x = false := by
  unfold pcode at h
  split at h
  · cases h
  · rename_i h1
    split at h
    · cases h
    · rename_i h2
      split at h
      · cases h
      · rename_i h3
        obtain ⟨b, rfl⟩ := Int.eq_ofNat_of_zero_le (show 0 ≤ a by omega)
        rw [Int.toNat_natCast] at h3
        have hn := nxt_spec S b (by omega)
        exact ⟨b, rfl, by omega, by omega, fun x g1 g2 => hn.no x g1 (by omega)⟩
theorem pcode_mk {S : Nat → Bool} {b : Nat} {l : List UInt8} (h1 : b + l.length ≤ 65536) (h2 : b < 65536) (h3 : ∀ x, b ≤ x → x < b + l.length → S x = false) : pcode S (b : Int) l = 0 := by
  unfold pcode
  rw [if_neg (by omega), if_neg (by omega), Int.toNat_natCast, if_neg (by have := nxt_ge (S := S) (a := b) (by omega) h1 h3; omega)]
theorem insR_or (S : Nat → Bool) (a n x : Nat) : insR S a n x = (S x || (decide (a ≤ x) && decide (x < a + n))) := rfl
theorem swap_two {S : Nat → Bool} {D : Nat → UInt8} {r s : Int × List UInt8} (h1 : pcode S r.1 r.2 = 0) (h2 : pcode (pS S r.1 r.2) s.1 s.2 = 0) :
    pcode S s.1 s.2 = 0 ∧ pcode (pS S s.1 s.2) r.1 r.2 = 0 ∧ pS (pS S r.1 r.2) s.1 s.2 = pS (pS S s.1 s.2) r.1 r.2 ∧ pD (pS S r.1 r.2) (pD S D r.1 r.2) s.1 s.2 = pD (pS S s.1 s.2) (pD S D s.1 s.2) r.1 r.2 := by
  obtain ⟨ra, rl⟩ := r
  obtain ⟨sa, sl⟩ := s
  obtain ⟨a, ha, a1, a2, a3⟩ := pcode_zero h1
  obtain ⟨b, hb, b1, b2, b3⟩ := pcode_zero h2
  simp only at ha hb a1 a3 b1 b3 h1 h2
  subst ha; subst hb
  have eS : pS S (a : Int) rl = insR S a rl.length := by unfold pS; rw [if_pos h1, Int.toNat_natCast]
  simp only [eS] at h2 b3 ⊢
  have dis : ∀ x, b ≤ x → x < b + sl.length → S x = false ∧ ¬ (a ≤ x ∧ x < a + rl.length) := fun x g1 g2 => by
    have := b3 x g1 g2
    rw [insR_or, Bool.or_eq_false_iff] at this
    refine ⟨this.1, fun h => ?_⟩
    have h3 := this.2
    simp [h.1, h.2] at h3
  have k1 : pcode S (b : Int) sl = 0 := pcode_mk b1 b2 (fun x g1 g2 => (dis x g1 g2).1)
  have eT : pS S (b : Int) sl = insR S b sl.length := by unfold pS; rw [if_pos k1, Int.toNat_natCast]
  simp only [eT]
  have k2 : pcode (insR S b sl.length) (a : Int) rl = 0 := pcode_mk a1 a2 (fun x g1 g2 => by
    rw [insR_or, a3 x g1 g2, Bool.false_or]
    cases h : (decide (b ≤ x) && decide (x < b + sl.length))
    · rfl
    · simp at h
      exact absurd ⟨g1, g2⟩ (dis x h.1 h.2).2)
  refine ⟨k1, k2, ?_, ?_⟩
  · unfold pS
    rw [if_pos h2, if_pos k2, Int.toNat_natCast, Int.toNat_natCast]
    funext x
    simp only [insR_or, Bool.or_assoc]
    congr 1
    exact Bool.or_comm _ _
  · unfold pD
    rw [if_pos h2, if_pos h1, if_pos k2, if_pos k1, Int.toNat_natCast, Int.toNat_natCast]
    funext x
    unfold wr
    by_cases g1 : b ≤ x
    · by_cases g2 : x < b + sl.length
      · have hd := (dis x g1 g2).2
        rw [if_pos g1, if_pos g1, List.getElem?_eq_getElem (by omega), Option.getD_some, Option.getD_some]
        by_cases g3 : a ≤ x
        · rw [if_pos g3, List.getElem?_eq_none (by omega), Option.getD_none]
        · rw [if_neg g3]
      · rw [if_pos g1, if_pos g1, List.getElem?_eq_none (by omega), Option.getD_none, Option.getD_none]
    · rw [if_neg g1, if_neg g1]
theorem ofR_cons {S : Nat → Bool} {D : Nat → UInt8} {r : Int × List UInt8} {R : List (Int × List UInt8)} {res : (Nat → Bool) × (Nat → UInt8)} (h : ofR S D (r :: R) = (0, res)) :
    pcode S r.1 r.2 = 0 ∧ ofR (pS S r.1 r.2) (pD S D r.1 r.2) R = (0, res) := by
  by_cases h0 : pcode S r.1 r.2 = 0
  · rw [ofR_yes h0] at h; exact ⟨h0, h⟩
  · rw [ofR_no h0] at h
    injection h with h _
    exact absurd h h0
/-- The order does not matter. -/
theorem ofR_perm {R R' : List (Int × List UInt8)} (hp : R.Perm R') : ∀ (S : Nat → Bool) (D : Nat → UInt8) (res : (Nat → Bool) × (Nat → UInt8)), ofR S D R = (0, res) → ofR S D R' = (0, res) := by
  induction hp with
  | nil => intro S D res h; exact h
  | cons r _ ih =>
    intro S D res h
    obtain ⟨h1, h2⟩ := ofR_cons h
    rw [ofR_yes h1]
    exact ih _ _ _ h2
  | swap r s R =>
    intro S D res h
    obtain ⟨h1, h2⟩ := ofR_cons h
    obtain ⟨h3, h4⟩ := ofR_cons h2
    obtain ⟨k1, k2, k3, k4⟩ := swap_two (D := D) h1 h3
    rw [ofR_yes k1, ofR_yes k2, ← k3, ← k4]
    exact h4
  | trans _ _ ih1 ih2 => intro S D res h; exact ih2 _ _ _ (ih1 _ _ _ h)
end Go.Proofs.YtmkgppbnhkihjaaDoor
