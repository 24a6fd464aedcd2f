/- Plain Lean: what a word is worth as a number. -/
import Derived.Test.YtilfbnfejnjaeaaUpper
namespace Go.Proofs.Ytilfbnfejnjaeaa

/-- The value of a decimal digit or a capital hexadecimal digit; 99 for any other byte. -/
def hv (c : UInt8) : Nat := if 48 ≤ c.toNat ∧ c.toNat ≤ 57 then c.toNat - 48 else if 65 ≤ c.toNat ∧ c.toNat ≤ 70 then c.toNat - 55 else 99
def hexl : List UInt8 := [48, 49, 50, 51, 52, 53, 54, 55, 56, 57, 65, 66, 67, 68, 69, 70]
/-- Digits to a base, from n on; none as soon as the number is too great. -/
def nacc (b : Nat) : Nat → List UInt8 → Option Nat
  | n, [] => some n
  | n, c :: l => if hv c < b ∧ n * b + hv c ≤ 65535 then nacc b (n * b + hv c) l else none
def nval (b : Nat) (l : List UInt8) : Option Nat := if l = [] then none else nacc b 0 l
theorem nacc_cons (b n : Nat) (c : UInt8) (l : List UInt8) : nacc b n (c :: l) = if hv c < b ∧ n * b + hv c ≤ 65535 then nacc b (n * b + hv c) l else none := rfl
theorem nacc_append (b : Nat) : ∀ (l m : List UInt8) (n : Nat), nacc b n (l ++ m) = (nacc b n l).bind fun k => nacc b k m
  | [], m, n => rfl
  | c :: l, m, n => by
    rw [List.cons_append, nacc_cons, nacc_cons]
    split
    · exact nacc_append b l m _
    · rfl
theorem nacc_snoc (b : Nat) (l : List UInt8) (c : UInt8) (n : Nat) : nacc b n (l ++ [c]) = (nacc b n l).bind fun k => if hv c < b ∧ k * b + hv c ≤ 65535 then some (k * b + hv c) else none := by
  rw [nacc_append]
  rfl
theorem nacc_le (b : Nat) : ∀ (l : List UInt8) (n m : Nat), n ≤ 65535 → nacc b n l = some m → m ≤ 65535
  | [], n, m, h, e => by
    unfold nacc at e
    injection e with e
    omega
  | c :: l, n, m, h, e => by
    unfold nacc at e
    split at e
    · rename_i h2
      exact nacc_le b l _ m h2.2 e
    · cases e
theorem nval_le {b : Nat} {l : List UInt8} {m : Nat} (h : nval b l = some m) : m ≤ 65535 := by
  unfold nval at h
  split at h
  · cases h
  · exact nacc_le b l 0 m (by omega) h
/-- Once the front fails, all fails. -/
theorem nacc_none {b k n : Nat} {l : List UInt8} (h : nacc b n (l.take k) = none) : nacc b n l = none := by
  rw [← List.take_append_drop k l, nacc_append, h]
  rfl
theorem nval_none {b k : Nat} {l : List UInt8} (h : nacc b 0 (l.take k) = none) : nval b l = none := by
  unfold nval
  split
  · rfl
  · exact nacc_none h
theorem hv_lt (c : UInt8) : hv c ≤ 99 := by
  unfold hv
  split
  · omega
  · split <;> omega
/-- Every digit of a number is one. -/
theorem nacc_all {b : Nat} : ∀ {l : List UInt8} {n m : Nat}, nacc b n l = some m → ∀ c ∈ l, hv c < b
  | [], _, _, _, c, hc => by cases hc
  | d :: l, n, m, h, c, hc => by
    unfold nacc at h
    split at h
    · rename_i h2
      rcases List.mem_cons.1 hc with rfl | hc
      · exact h2.1
      · exact nacc_all h c hc
    · cases h
theorem nval_all {b : Nat} {l : List UInt8} {m : Nat} (h : nval b l = some m) : l ≠ [] ∧ ∀ c ∈ l, hv c < b := by
  unfold nval at h
  split at h
  · cases h
  · rename_i h2
    exact ⟨h2, nacc_all h⟩
end Go.Proofs.Ytilfbnfejnjaeaa
