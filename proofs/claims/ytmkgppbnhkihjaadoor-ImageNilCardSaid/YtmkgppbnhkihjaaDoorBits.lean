/- Plain facts on a set of addresses that is kept as bits of words, and on the next address in (or out of) a set. No program. -/
namespace Go.Proofs.YtmkgppbnhkihjaaDoor

/-- The number of the bits S (64 k), S (64 k + 1), .. below n. -/
def wdN (S : Nat → Bool) (k : Nat) : Nat → Nat
  | 0 => 0
  | n + 1 => wdN S k n ||| (if S (64 * k + n) then 2 ^ n else 0)
/-- Word k of the set S. -/
def wd (S : Nat → Bool) (k : Nat) : Nat := wdN S k 64

theorem wdN_bit (S : Nat → Bool) (k j : Nat) : ∀ n, (wdN S k n).testBit j = (decide (j < n) && S (64 * k + j))
  | 0 => by simp [wdN]
  | n + 1 => by
    rw [wdN, Nat.testBit_or, wdN_bit S k j n]
    by_cases hj : j = n
    · subst hj
      cases hS : S (64 * k + j) <;> simp [Nat.testBit_two_pow]
    · have h1 : (j < n + 1) ↔ (j < n) := by omega
      simp only [h1]
      split
      · rw [Nat.testBit_two_pow]
        have : ¬ n = j := fun e => hj e.symm
        simp [this]
      · simp
theorem wd_bit (S : Nat → Bool) (k j : Nat) : (wd S k).testBit j = (decide (j < 64) && S (64 * k + j)) := wdN_bit S k j 64
theorem wd_lt (S : Nat → Bool) (k : Nat) : wd S k < 18446744073709551616 := by
  have : wd S k < 2 ^ 64 := Nat.lt_pow_two_of_testBit _ fun j hj => by
    rw [wd_bit]
    have : ¬ j < 64 := by omega
    simp [this]
  simpa using this
/-- S with one address more. -/
def ins (S : Nat → Bool) (a : Nat) : Nat → Bool := fun x => S x || x == a
theorem wd_ins (S : Nat → Bool) (a : Nat) : wd (ins S a) (a / 64) = wd S (a / 64) ||| 2 ^ (a % 64) := by
  apply Nat.eq_of_testBit_eq
  intro j
  rw [Nat.testBit_or, wd_bit, wd_bit, Nat.testBit_two_pow, ins]
  have hm : a % 64 < 64 := Nat.mod_lt _ (by decide)
  by_cases hj : j < 64
  · have e : (64 * (a / 64) + j == a) = decide (a % 64 = j) := by
      rw [Bool.eq_iff_iff]; simp; omega
    simp [hj, e]
  · have e : ¬ a % 64 = j := by omega
    simp [hj, e]
theorem wd_ins_ne (S : Nat → Bool) (a k : Nat) (hk : k ≠ a / 64) : wd (ins S a) k = wd S k := by
  apply Nat.eq_of_testBit_eq
  intro j
  rw [wd_bit, wd_bit, ins]
  by_cases hj : j < 64
  · have e : (64 * k + j == a) = false := by simp; omega
    simp [e]
  · simp [hj]
theorem wd_none (k : Nat) : wd (fun _ => false) k = 0 := by
  apply Nat.eq_of_testBit_eq
  intro j
  rw [wd_bit]; simp

/-- The complement of a word is the word of the complement. -/
theorem wd_not (S : Nat → Bool) (k : Nat) : 18446744073709551615 - wd S k = wd (fun x => !S x) k := by
  have h := wd_lt S k
  have e : 18446744073709551615 - wd S k = 2 ^ 64 - (wd S k + 1) := by omega
  rw [e]
  apply Nat.eq_of_testBit_eq
  intro j
  rw [Nat.testBit_two_pow_sub_succ (by simpa using h), wd_bit, wd_bit]
  by_cases hj : j < 64 <;> simp [hj]

/-- r is the first address from a on for which T holds, or 65536. -/
structure IsNext (T : Nat → Bool) (a r : Nat) : Prop where
  ge : a ≤ r
  le : r ≤ 65536
  no : ∀ x, a ≤ x → x < r → T x = false
  yes : r < 65536 → T r = true
theorem IsNext.eq {T : Nat → Bool} {a r s : Nat} (h : IsNext T a r) (k : IsNext T a s) : r = s := by
  rcases Nat.lt_trichotomy r s with hlt | he | hgt
  · have h1 := k.no r h.ge hlt
    rw [h.yes (by have := k.le; omega)] at h1; cases h1
  · exact he
  · have h1 := h.no s k.ge hgt
    rw [k.yes (by have := h.le; omega)] at h1; cases h1
def nxtF (T : Nat → Bool) : Nat → Nat → Nat
  | 0, a => a
  | f + 1, a => if T a then a else nxtF T f (a + 1)
/-- The first address from a on for which T holds, or 65536. -/
def nxt (T : Nat → Bool) (a : Nat) : Nat := nxtF T (65536 - a) a
theorem nxtF_spec (T : Nat → Bool) : ∀ f a, a + f = 65536 → IsNext T a (nxtF T f a)
  | 0, a, h => ⟨Nat.le_refl _, (by show a ≤ 65536; omega), fun x h1 (h2 : x < a) => by omega, fun (h1 : a < 65536) => by omega⟩
  | f + 1, a, h => by
    unfold nxtF
    split
    · rename_i ht
      exact ⟨Nat.le_refl _, by omega, fun x h1 h2 => by omega, fun _ => ht⟩
    · rename_i ht
      have ih := nxtF_spec T f (a + 1) (by omega)
      exact ⟨by have := ih.ge; omega, ih.le, fun x h1 h2 => by
        rcases Nat.eq_or_lt_of_le h1 with e | e
        · subst e; simpa using ht
        · exact ih.no x e h2, ih.yes⟩
theorem nxt_spec (T : Nat → Bool) (a : Nat) (h : a ≤ 65536) : IsNext T a (nxt T a) := nxtF_spec T _ a (by omega)
theorem nxt_eq {T : Nat → Bool} {a r : Nat} (h : IsNext T a r) : nxt T a = r :=
  (nxt_spec T a (by have := h.ge; have := h.le; omega)).eq h

/-- The lowest bit of a word behind a shift. -/
theorem shift_zero (S : Nat → Bool) (a : Nat) (h : wd S (a / 64) / 2 ^ (a % 64) = 0) : ∀ x, a ≤ x → x < (a / 64 + 1) * 64 → S x = false := by
  intro x h1 h2
  have hb := wd_bit S (a / 64) (x % 64)
  have hx : x / 64 = a / 64 := by omega
  have e : 64 * (a / 64) + x % 64 = x := by omega
  have hm : x % 64 < 64 := by omega
  rw [e] at hb
  simp only [hm, decide_true, Bool.true_and] at hb
  rw [← hb]
  have h3 : wd S (a / 64) < 2 ^ (a % 64) := by
    rcases Nat.div_eq_zero_iff.1 h with h4 | h4
    · exact absurd h4 (Nat.ne_of_gt (Nat.two_pow_pos _))
    · exact h4
  exact Nat.testBit_lt_two_pow (Nat.lt_of_lt_of_le h3 (Nat.pow_le_pow_right (by decide) (by omega)))
theorem shift_first (S : Nat → Bool) (a c : Nat) (n m : Nat) (h : wd S (a / 64) / 2 ^ (a % 64) = n) (hn : n = 2 ^ c * (2 * m + 1)) :
    c < 64 - a % 64 ∧ S (a + c) = true ∧ ∀ x, a ≤ x → x < a + c → S x = false := by
  have hb : ∀ j, n.testBit j = (wd S (a / 64)).testBit (a % 64 + j) := fun j => by
    rw [← h, Nat.testBit_div_two_pow, Nat.add_comm]
  have h1 : n.testBit c = true := by
    rw [hn, Nat.mul_comm, Nat.testBit_mul_two_pow]
    simp [Nat.testBit_zero]
  have h2 : ∀ j, j < c → n.testBit j = false := fun j hj => by
    rw [hn, Nat.mul_comm, Nat.testBit_mul_two_pow]
    have : ¬ c ≤ j := by omega
    simp [this]
  have hc : c < 64 - a % 64 := by
    rw [hb, wd_bit] at h1
    simp at h1; omega
  refine ⟨hc, ?_, fun x g1 g2 => ?_⟩
  · rw [hb, wd_bit] at h1
    have e : 64 * (a / 64) + (a % 64 + c) = a + c := by omega
    rw [e] at h1
    simp at h1; exact h1.2
  · have h3 := h2 (x - a) (by omega)
    rw [hb, wd_bit] at h3
    have e : 64 * (a / 64) + (a % 64 + (x - a)) = x := by omega
    have e2 : a % 64 + (x - a) < 64 := by omega
    rw [e] at h3
    simpa [e2] using h3
end Go.Proofs.YtmkgppbnhkihjaaDoor
