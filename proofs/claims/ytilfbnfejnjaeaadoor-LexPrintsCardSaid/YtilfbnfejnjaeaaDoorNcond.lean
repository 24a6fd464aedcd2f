/- Plain Lean: the forms of a word by its bytes, as the reference asks of them. -/
import Derived.Test.YtilfbnfejnjaeaaDoorNplain
namespace Go.Proofs.YtilfbnfejnjaeaaDoor
open Go.RowKit

theorem upc_facts : ∀ n : Fin 256, (upc (UInt8.ofNat n.val) = 48 ↔ UInt8.ofNat n.val = 48) ∧ (upc (UInt8.ofNat n.val) = 88 ↔ UInt8.ofNat n.val = 120 ∨ UInt8.ofNat n.val = 88) ∧ (upc (UInt8.ofNat n.val) = 36 ↔ UInt8.ofNat n.val = 36) ∧ (upc (UInt8.ofNat n.val) = 37 ↔ UInt8.ofNat n.val = 37) ∧
    (upc (UInt8.ofNat n.val) = 72 ↔ UInt8.ofNat n.val = 104 ∨ UInt8.ofNat n.val = 72) ∧ (upc (UInt8.ofNat n.val) = 66 ↔ UInt8.ofNat n.val = 98 ∨ UInt8.ofNat n.val = 66) := by decide +kernel
theorem upc_is (c : UInt8) : (upc c = 48 ↔ c = 48) ∧ (upc c = 88 ↔ c = 120 ∨ c = 88) ∧ (upc c = 36 ↔ c = 36) ∧ (upc c = 37 ↔ c = 37) ∧ (upc c = 72 ↔ c = 104 ∨ c = 72) ∧ (upc c = 66 ↔ c = 98 ∨ c = 66) := by
  have := upc_facts ⟨c.toNat, c.toNat_lt⟩
  simpa using this
theorem nval_nil (b : Nat) : nval b [] = none := rfl
theorem fval_pre1 (l : List UInt8) : fval l 1 = if Lib.hasPrefix (l.map upc) [48, 88] then nval 16 (Lib.trimPrefix (l.map upc) [48, 88]) else none := rfl
theorem fval_pre2 (l : List UInt8) : fval l 2 = if Lib.hasPrefix (l.map upc) [36] then nval 16 (Lib.trimPrefix (l.map upc) [36]) else none := rfl
theorem fval_pre5 (l : List UInt8) : fval l 5 = if Lib.hasPrefix (l.map upc) [37] then nval 2 (Lib.trimPrefix (l.map upc) [37]) else none := rfl
theorem fval_suf4 (l : List UInt8) : fval l 4 = if Lib.hasSuffix (l.map upc) [66] then nval 2 (Lib.trimSuffix (l.map upc) [66]) else none := rfl
theorem fval_suf3 (l : List UInt8) : fval l 3 = if (Lib.hasSuffix (l.map upc) [72] && hok (Lib.trimSuffix (l.map upc) [72])) then nval 16 (Lib.trimSuffix (l.map upc) [72]) else none := rfl
theorem hasPre (m d : List UInt8) : Lib.hasPrefix (m ++ d) m = true ∧ Lib.trimPrefix (m ++ d) m = d := by
  have h : Lib.hasPrefix (m ++ d) m = true := List.isPrefixOf_iff_prefix.2 (List.prefix_append _ _)
  exact ⟨h, by unfold Lib.trimPrefix; rw [if_pos h, List.drop_left]⟩
theorem hasSuf (m d : List UInt8) : Lib.hasSuffix (d ++ m) m = true ∧ Lib.trimSuffix (d ++ m) m = d := by
  have h : Lib.hasSuffix (d ++ m) m = true := List.isSuffixOf_iff_suffix.2 (List.suffix_append _ _)
  exact ⟨h, by unfold Lib.trimSuffix; rw [if_pos h, List.length_append, Nat.add_sub_cancel, List.take_left]⟩
theorem noPre1 {u : List UInt8} {a : UInt8} (h : u.head? ≠ some a) : Lib.hasPrefix u [a] = false := by
  cases hx : Lib.hasPrefix u [a] with
  | false => rfl
  | true =>
    obtain ⟨d, rfl, _⟩ := pre_of hx
    exact absurd rfl h
theorem noSuf1 {u : List UInt8} {a : UInt8} (h : u.getLast? ≠ some a) : Lib.hasSuffix u [a] = false := by
  cases hx : Lib.hasSuffix u [a] with
  | false => rfl
  | true =>
    obtain ⟨d, rfl, _⟩ := suf_of hx
    exact absurd (by simp) h
theorem f1_yes {r : List UInt8} {c : UInt8} (h : c = 120 ∨ c = 88) : fval (48 :: c :: r) 1 = nval 16 (r.map upc) := by
  have e : (48 :: c :: r).map upc = [48, 88] ++ r.map upc := by
    rw [List.map_cons, List.map_cons, (upc_is c).2.1.2 h, (upc_is 48).1.2 rfl]; rfl
  obtain ⟨h1, h2⟩ := hasPre [48, 88] (r.map upc)
  rw [fval_pre1, e, h1, h2]
  rfl
theorem f1_no {l : List UInt8} (h : ∀ r c, l = 48 :: c :: r → (c = 120 ∨ c = 88) → r = []) : fval l 1 = none := by
  cases hx : fval l 1 with
  | none => rfl
  | some n =>
    obtain ⟨h1, h2⟩ := fval_cut hx
    obtain ⟨d, e, ed⟩ := pre_of (u := l.map upc) (m := [48, 88]) h1
    have ed' : (fcut l 1).1 = d := ed
    rw [ed'] at h2
    rcases l with _ | ⟨c0, _ | ⟨c1, r⟩⟩
    · have := congrArg List.length e
      simp at this
    · have := congrArg List.length e
      simp at this
    · rw [List.map_cons, List.map_cons] at e
      injection e with e1 e2
      injection e2 with e2 e3
      have e3' : r.map upc = d := e3
      have k0 := (upc_is c0).1.1 e1
      have k1 := (upc_is c1).2.1.1 e2
      subst k0
      have := h r c1 rfl k1
      subst this
      rw [← e3'] at h2
      cases h2
theorem f2_yes (r : List UInt8) : fval (36 :: r) 2 = nval 16 (r.map upc) := by
  have e : (36 :: r).map upc = [36] ++ r.map upc := by rw [List.map_cons, (upc_is 36).2.2.1.2 rfl]; rfl
  obtain ⟨h1, h2⟩ := hasPre [36] (r.map upc)
  rw [fval_pre2, e, h1, h2]
  rfl
theorem f5_yes (r : List UInt8) : fval (37 :: r) 5 = nval 2 (r.map upc) := by
  have e : (37 :: r).map upc = [37] ++ r.map upc := by rw [List.map_cons, (upc_is 37).2.2.2.1.2 rfl]; rfl
  obtain ⟨h1, h2⟩ := hasPre [37] (r.map upc)
  rw [fval_pre5, e, h1, h2]
  rfl
theorem f2_no {c : UInt8} {r : List UInt8} (h : c ≠ 36) : fval (c :: r) 2 = none := by
  rw [fval_pre2, noPre1 (by rw [List.map_cons]; intro e; exact h ((upc_is c).2.2.1.1 (Option.some.inj e)))]
  rfl
theorem f5_no {c : UInt8} {r : List UInt8} (h : c ≠ 37) : fval (c :: r) 5 = none := by
  rw [fval_pre5, noPre1 (by rw [List.map_cons]; intro e; exact h ((upc_is c).2.2.2.1.1 (Option.some.inj e)))]
  rfl
theorem f4_yes {z : UInt8} (r : List UInt8) (h : z = 98 ∨ z = 66) : fval (r ++ [z]) 4 = nval 2 (r.map upc) := by
  have e : (r ++ [z]).map upc = r.map upc ++ [66] := by rw [List.map_append, List.map_cons, (upc_is z).2.2.2.2.2.2 h]; rfl
  obtain ⟨h1, h2⟩ := hasSuf [66] (r.map upc)
  rw [fval_suf4, e, h1, h2]
  rfl
theorem f4_no {z : UInt8} (r : List UInt8) (h : ¬ (z = 98 ∨ z = 66)) : fval (r ++ [z]) 4 = none := by
  rw [fval_suf4, noSuf1 (by rw [List.map_append, List.map_cons]; intro e; simp at e; exact h ((upc_is z).2.2.2.2.2.1 e))]
  rfl
theorem f3_no {z : UInt8} (r : List UInt8) (h : ¬ (z = 104 ∨ z = 72)) : fval (r ++ [z]) 3 = none := by
  rw [fval_suf3, noSuf1 (by rw [List.map_append, List.map_cons]; intro e; simp at e; exact h ((upc_is z).2.2.2.2.1.1 e))]
  rfl
theorem hok_facts : ∀ n : Fin 256, hv (UInt8.ofNat n.val) < 16 → (decide ((UInt8.ofNat n.val).toNat ≤ 57) = decide (hv (UInt8.ofNat n.val) < 10)) := by decide +kernel
theorem f3_yes {z c : UInt8} (r : List UInt8) (h : z = 104 ∨ z = 72) : fval (c :: r ++ [z]) 3 = if hv (upc c) < 10 then nval 16 ((c :: r).map upc) else none := by
  have e : (c :: r ++ [z]).map upc = (c :: r).map upc ++ [72] := by rw [List.map_append, List.map_cons (l := []), (upc_is z).2.2.2.2.1.2 h]; rfl
  obtain ⟨h1, h2⟩ := hasSuf [72] ((c :: r).map upc)
  rw [fval_suf3, e, h1, h2, Bool.true_and]
  by_cases hx : hv (upc c) < 16
  · have hd := hok_facts ⟨(upc c).toNat, (upc c).toNat_lt⟩ (by simpa using hx)
    have hk : hok ((c :: r).map upc) = decide (hv (upc c) < 10) := by
      rw [List.map_cons]
      show decide ((upc c).toNat ≤ 57) = _
      simpa using hd
    rw [hk]
    by_cases hy : hv (upc c) < 10
    · rw [decide_eq_true hy, if_pos rfl, if_pos hy]
    · rw [decide_eq_false hy, if_neg (by decide), if_neg hy]
  · rw [if_neg (show ¬ hv (upc c) < 10 by omega)]
    split
    · cases hn : nval 16 ((c :: r).map upc) with
      | none => rfl
      | some n => exact absurd ((nval_all hn).2 (upc c) (by simp)) hx
    · rfl
theorem f_nil (k : Nat) (h0 : 1 ≤ k) (h : k < 6) : fval [] k = none := by
  have ck : k = 1 ∨ k = 2 ∨ k = 3 ∨ k = 4 ∨ k = 5 := by omega
  rcases ck with rfl | rfl | rfl | rfl | rfl <;> rfl
theorem f_one (c : UInt8) (k : Nat) (h0 : 1 ≤ k) (h : k < 6) : fval [c] k = none := by
  cases hx : fval [c] k with
  | none => rfl
  | some n =>
    obtain ⟨h1, h2⟩ := fval_cut hx
    have h3 := (nval_all h2).1
    have ck : k = 1 ∨ k = 2 ∨ k = 3 ∨ k = 4 ∨ k = 5 := by omega
    rcases ck with rfl | rfl | rfl | rfl | rfl
    · obtain ⟨d, e, _⟩ := pre_of (u := [c].map upc) (m := [48, 88]) h1
      have := congrArg List.length e
      simp at this
    · obtain ⟨d, e, ed⟩ := pre_of (u := [c].map upc) (m := [36]) h1
      have := congrArg List.length e
      simp at this
      subst this
      exact absurd ed h3
    · have h1' : (Lib.hasSuffix ([c].map upc) [72] && hok (Lib.trimSuffix ([c].map upc) [72])) = true := h1
      rw [Bool.and_eq_true] at h1'
      obtain ⟨d, e, ed⟩ := suf_of (u := [c].map upc) (m := [72]) h1'.1
      have := congrArg List.length e
      simp at this
      subst this
      exact absurd ed h3
    · obtain ⟨d, e, ed⟩ := suf_of (u := [c].map upc) (m := [66]) h1
      have := congrArg List.length e
      simp at this
      subst this
      exact absurd ed h3
    · obtain ⟨d, e, ed⟩ := pre_of (u := [c].map upc) (m := [37]) h1
      have := congrArg List.length e
      simp at this
      subst this
      exact absurd ed h3
end Go.Proofs.YtilfbnfejnjaeaaDoor
