/- Plain Lean: at most one of the six forms succeeds at a word. -/
import Derived.Test.YtilfbnfejnjaeaaDoorPforms
namespace Go.Proofs.YtilfbnfejnjaeaaDoor
open Go.RowKit

theorem dec_up {c : UInt8} (h : hv c < 10) : upc c = c := by
  apply upc_no
  intro h2
  unfold hv at h
  split at h
  · omega
  · split at h <;> omega
theorem dec_all : ∀ n : Fin 256, (hv (UInt8.ofNat n.val) < 10 ↔ hv (upc (UInt8.ofNat n.val)) < 10) := by decide +kernel
theorem dec_iff (c : UInt8) : hv c < 10 ↔ hv (upc c) < 10 := by
  have := dec_all ⟨c.toNat, c.toNat_lt⟩
  simpa using this
theorem nacc10_up : ∀ (l : List UInt8) (n : Nat), nacc 10 n (l.map upc) = nacc 10 n l
  | [], _ => rfl
  | c :: l, n => by
    rw [List.map_cons, nacc_cons, nacc_cons]
    by_cases h : hv c < 10
    · rw [dec_up h]
      split
      · exact nacc10_up l _
      · rfl
    · rw [if_neg (fun h2 => h ((dec_iff c).2 h2.1)), if_neg (fun h2 => h h2.1)]
theorem nval10_up (l : List UInt8) : nval 10 (l.map upc) = nval 10 l := by
  unfold nval
  by_cases h : l = []
  · subst h; rfl
  · rw [if_neg h, if_neg (by simpa using h), nacc10_up]

/-- What marks a word of form k: its first byte, its last byte, whether it has an X. -/
def sigP (k : Nat) (f z : UInt8) (m : Prop) : Prop :=
  match k with
  | 0 => hv f < 10 ∧ hv z < 10 ∧ ¬ m
  | 1 => f = 48 ∧ hv z < 16 ∧ m
  | 2 => f = 36
  | 3 => hv f < 16 ∧ z = 72
  | 4 => hv f < 16 ∧ z = 66 ∧ ¬ m
  | _ => f = 37
theorem sig_one {i j : Nat} {f z : UInt8} {m : Prop} (hi : i < 6) (hj : j < 6) (h : sigP i f z m) (h' : sigP j f z m) : i = j := by
  have k36 : hv 36 = 99 := by decide
  have k37 : hv 37 = 99 := by decide
  have k72 : hv 72 = 99 := by decide
  have k66 : hv 66 = 11 := by decide
  have ci : i = 0 ∨ i = 1 ∨ i = 2 ∨ i = 3 ∨ i = 4 ∨ i = 5 := by omega
  have cj : j = 0 ∨ j = 1 ∨ j = 2 ∨ j = 3 ∨ j = 4 ∨ j = 5 := by omega
  rcases ci with rfl | rfl | rfl | rfl | rfl | rfl <;> rcases cj with rfl | rfl | rfl | rfl | rfl | rfl <;> first
    | rfl
    | (exfalso; simp only [sigP] at h h'; obtain ⟨h1, h2, h3⟩ := h; obtain ⟨h4, h5, h6⟩ := h'; first | exact h3 h6 | exact h6 h3 | (subst h4; simp_all) | (subst h1; simp_all) | (subst h2; simp_all) | (subst h5; simp_all) | omega)
    | (exfalso; simp only [sigP] at h h'; obtain ⟨h1, h2, h3⟩ := h; obtain ⟨h4, h5⟩ := h'; first | (subst h5; simp_all; done) | (subst h2; simp_all; done) | omega)
    | (exfalso; simp only [sigP] at h h'; obtain ⟨h1, h2⟩ := h; obtain ⟨h4, h5, h6⟩ := h'; first | (subst h2; simp_all; done) | (subst h5; simp_all; done) | omega)
    | (exfalso; simp only [sigP] at h h'; subst h; simp_all; done)
    | (exfalso; simp only [sigP] at h h'; subst h'; simp_all; done)
theorem head_of {u : List UInt8} (h : u ≠ []) : ∃ f z, u.head? = some f ∧ u.getLast? = some z ∧ f ∈ u ∧ z ∈ u :=
  ⟨u.head h, u.getLast h, List.head?_eq_some_head h, List.getLast?_eq_some_getLast h, List.head_mem h, List.getLast_mem h⟩
theorem pre_of {u m : List UInt8} (h : Lib.hasPrefix u m = true) : ∃ d, u = m ++ d ∧ Lib.trimPrefix u m = d := by
  have h1 : m <+: u := List.isPrefixOf_iff_prefix.1 h
  obtain ⟨d, rfl⟩ := h1
  exact ⟨d, rfl, by unfold Lib.trimPrefix; rw [if_pos h, List.drop_left]⟩
theorem suf_of {u m : List UInt8} (h : Lib.hasSuffix u m = true) : ∃ d, u = d ++ m ∧ Lib.trimSuffix u m = d := by
  have h1 : m <:+ u := List.isSuffixOf_iff_suffix.1 h
  obtain ⟨d, rfl⟩ := h1
  refine ⟨d, rfl, ?_⟩
  unfold Lib.trimSuffix
  rw [if_pos h, List.length_append, Nat.add_sub_cancel, List.take_left]
theorem fval_cut {l : List UInt8} {k n : Nat} (h : fval l k = some n) : (fcut l k).2 = true ∧ nval (fbase k) (fcut l k).1 = some n := by
  unfold fval at h
  split at h
  · rename_i h1; exact ⟨h1, h⟩
  · cases h
theorem sig_of {l : List UInt8} {k n : Nat} (hk : k < 6) (h : fval l k = some n) : ∃ f z, (l.map upc).head? = some f ∧ (l.map upc).getLast? = some z ∧ sigP k f z (88 ∈ l.map upc) := by
  obtain ⟨h1, h2⟩ := fval_cut h
  obtain ⟨h3, h4⟩ := nval_all h2
  have ck : k = 0 ∨ k = 1 ∨ k = 2 ∨ k = 3 ∨ k = 4 ∨ k = 5 := by omega
  rcases ck with rfl | rfl | rfl | rfl | rfl | rfl
  · have hu : l.map upc = l := by
      conv => rhs; rw [← List.map_id l]
      exact List.map_congr_left fun c hc => dec_up (h4 c hc)
    rw [hu]
    obtain ⟨f, z, e1, e2, m1, m2⟩ := head_of (u := l) h3
    refine ⟨f, z, e1, e2, h4 f m1, h4 z m2, fun hx => ?_⟩
    have := h4 88 hx
    exact absurd this (by decide)
  · obtain ⟨d, e, ed⟩ := pre_of (u := l.map upc) (m := [48, 88]) h1
    have ed' : (fcut l 1).1 = d := ed
    rw [ed'] at h3 h4
    rw [e]
    obtain ⟨f, z, e1, e2, m1, m2⟩ := head_of (u := d) h3
    refine ⟨48, z, rfl, ?_, rfl, h4 z m2, by simp⟩
    rw [List.getLast?_append, e2]
    rfl
  · obtain ⟨d, e, ed⟩ := pre_of (u := l.map upc) (m := [36]) h1
    rw [e]
    obtain ⟨f, z, e1, e2, m1, m2⟩ := head_of (u := [36] ++ d) (by simp)
    exact ⟨36, z, rfl, e2, rfl⟩
  · have h1' : Lib.hasSuffix (l.map upc) [72] = true := by
      have : (Lib.hasSuffix (l.map upc) [72] && hok (Lib.trimSuffix (l.map upc) [72])) = true := h1
      rw [Bool.and_eq_true] at this
      exact this.1
    obtain ⟨d, e, ed⟩ := suf_of (u := l.map upc) (m := [72]) h1'
    have ed' : (fcut l 3).1 = d := ed
    rw [ed'] at h3 h4
    rw [e]
    obtain ⟨f, z, e1, e2, m1, m2⟩ := head_of (u := d) h3
    refine ⟨f, 72, ?_, by simp, h4 f m1, rfl⟩
    rw [List.head?_append, e1]
    rfl
  · obtain ⟨d, e, ed⟩ := suf_of (u := l.map upc) (m := [66]) h1
    have ed' : (fcut l 4).1 = d := ed
    rw [ed'] at h3 h4
    rw [e]
    obtain ⟨f, z, e1, e2, m1, m2⟩ := head_of (u := d) h3
    refine ⟨f, 66, ?_, by simp, Nat.lt_trans (h4 f m1) (by decide), rfl, fun hx => ?_⟩
    · rw [List.head?_append, e1]
      rfl
    · rcases List.mem_append.1 hx with hx | hx
      · exact absurd (h4 88 hx) (by decide)
      · simp at hx
  · obtain ⟨d, e, ed⟩ := pre_of (u := l.map upc) (m := [37]) h1
    rw [e]
    obtain ⟨f, z, e1, e2, m1, m2⟩ := head_of (u := [37] ++ d) (by simp)
    exact ⟨37, z, rfl, e2, rfl⟩
/-- At most one form succeeds. -/
theorem fval_one {l : List UInt8} {i j a b : Nat} (hi : i < 6) (hj : j < 6) (h : fval l i = some a) (h' : fval l j = some b) : i = j := by
  obtain ⟨f, z, e1, e2, s⟩ := sig_of hi h
  obtain ⟨f', z', e1', e2', s'⟩ := sig_of hj h'
  rw [e1] at e1'
  rw [e2] at e2'
  cases e1'
  cases e2'
  exact sig_one hi hj s s'
theorem pval_of {l : List UInt8} {k n : Nat} (hk : k < 6) (h : fval l k = some n) : pval l = some n :=
  pval_some hk (fun j hj => by
    cases hx : fval l j with
    | none => rfl
    | some m => exact absurd (fval_one (by omega) hk hx h) (by omega)) h
theorem pval_cases (l : List UInt8) : (pval l = none ∧ ∀ k, k < 6 → fval l k = none) ∨ ∃ k n, k < 6 ∧ fval l k = some n ∧ pval l = some n ∧ ∀ j, j < 6 → j ≠ k → fval l j = none := by
  by_cases h : ∀ k, k < 6 → fval l k = none
  · exact .inl ⟨pval_none h, h⟩
  · obtain ⟨k, hk⟩ := Classical.not_forall.1 h
    obtain ⟨hk1, hk2⟩ := Classical.not_imp.1 hk
    cases hx : fval l k with
    | none => exact absurd hx hk2
    | some n =>
      refine .inr ⟨k, n, hk1, hx, pval_of hk1 hx, fun j hj hjk => ?_⟩
      cases hy : fval l j with
      | none => rfl
      | some m => exact absurd (fval_one hj hk1 hy hx) hjk
/-- The greatest of the six values, none as -1, in the reference's order. -/
def xval (l : List UInt8) : Int := max (max (max (max (max (rvI (fval l 0)) (rvI (fval l 1))) (rvI (fval l 2))) (rvI (fval l 5))) (rvI (fval l 3))) (rvI (fval l 4))
theorem xval_pval (l : List UInt8) : xval l = rvI (pval l) := by
  unfold xval
  rcases pval_cases l with ⟨h, h2⟩ | ⟨k, n, hk, h1, h2, h3⟩
  · rw [h, h2 0 (by decide), h2 1 (by decide), h2 2 (by decide), h2 3 (by decide), h2 4 (by decide), h2 5 (by decide)]
    rfl
  · have e : ∀ j, j < 6 → rvI (fval l j) = if j = k then (n : Int) else -1 := fun j hj => by
      by_cases hjk : j = k
      · subst hjk; rw [if_pos rfl, h1]; rfl
      · rw [if_neg hjk, h3 j hj hjk]; rfl
    rw [h2, e 0 (by decide), e 1 (by decide), e 2 (by decide), e 3 (by decide), e 4 (by decide), e 5 (by decide)]
    show _ = (n : Int)
    have ck : k = 0 ∨ k = 1 ∨ k = 2 ∨ k = 3 ∨ k = 4 ∨ k = 5 := by omega
    rcases ck with rfl | rfl | rfl | rfl | rfl | rfl <;> simp <;> omega
end Go.Proofs.YtilfbnfejnjaeaaDoor
