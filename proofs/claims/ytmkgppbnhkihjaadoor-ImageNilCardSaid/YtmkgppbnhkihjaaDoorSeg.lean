/- Plain facts: the cells of a set of addresses with their bytes, range by range; lists of runs, which the cells determine. No program. -/
import Derived.Test.YtmkgppbnhkihjaaDoorBits
namespace Go.Proofs.YtmkgppbnhkihjaaDoor

/-- The cells with addresses from a on, n of them at most. -/
def seg (S : Nat → Bool) (D : Nat → UInt8) (a : Nat) : Nat → List (Nat × UInt8)
  | 0 => []
  | n + 1 => (if S a then [(a, D a)] else []) ++ seg S D (a + 1) n
/-- The bytes from a on. -/
def ds (D : Nat → UInt8) (a : Nat) : Nat → List UInt8
  | 0 => []
  | n + 1 => D a :: ds D (a + 1) n
/-- The cells of bytes from an address on. -/
def nw (a : Nat) : List UInt8 → List (Nat × UInt8)
  | [] => []
  | c :: l => (a, c) :: nw (a + 1) l

section
variable (S : Nat → Bool) (D : Nat → UInt8)
theorem seg_add (a m n : Nat) : seg S D a (m + n) = seg S D a m ++ seg S D (a + m) n := by
  induction m generalizing a with
  | zero => simp [seg]
  | succ m ih => rw [show m + 1 + n = (m + n) + 1 from by omega, seg, seg, ih, List.append_assoc, show a + 1 + m = a + (m + 1) from by omega]
theorem seg_none (a n : Nat) (h : ∀ x, a ≤ x → x < a + n → S x = false) : seg S D a n = [] := by
  induction n generalizing a with
  | zero => rfl
  | succ n ih => rw [seg, h a (Nat.le_refl _) (by omega), ih (a + 1) (fun x h1 h2 => h x (by omega) (by omega))]; rfl
theorem seg_all (a n : Nat) (h : ∀ x, a ≤ x → x < a + n → S x = true) : seg S D a n = nw a (ds D a n) := by
  induction n generalizing a with
  | zero => rfl
  | succ n ih => rw [seg, h a (Nat.le_refl _) (by omega), ih (a + 1) (fun x h1 h2 => h x (by omega) (by omega))]; rfl
theorem seg_congr {S' : Nat → Bool} {D' : Nat → UInt8} (a n : Nat) (h : ∀ x, a ≤ x → x < a + n → S x = S' x) (h' : ∀ x, a ≤ x → x < a + n → D x = D' x) : seg S D a n = seg S' D' a n := by
  induction n generalizing a with
  | zero => rfl
  | succ n ih => rw [seg, seg, h a (Nat.le_refl _) (by omega), h' a (Nat.le_refl _) (by omega), ih (a + 1) (fun x h1 h2 => h x (by omega) (by omega)) (fun x h1 h2 => h' x (by omega) (by omega))]
theorem seg_le (a n : Nat) : (seg S D a n).length ≤ n := by
  induction n generalizing a with
  | zero => simp [seg]
  | succ n ih =>
    have := ih (a + 1)
    rw [seg, List.length_append]
    split <;> simp <;> omega
theorem seg_mem (a n : Nat) : ∀ c ∈ seg S D a n, a ≤ c.1 ∧ c.1 < a + n ∧ S c.1 = true ∧ c.2 = D c.1 := by
  induction n generalizing a with
  | zero => simp [seg]
  | succ n ih =>
    intro c hc
    rw [seg, List.mem_append] at hc
    rcases hc with hc | hc
    · split at hc
      · rename_i hs
        simp at hc
        subst hc
        exact ⟨Nat.le_refl _, by omega, hs, rfl⟩
      · simp at hc
    · have := ih (a + 1) c hc
      exact ⟨by omega, by omega, this.2.2⟩
theorem seg_nil_iff (a n : Nat) (h : seg S D a n = []) : ∀ x, a ≤ x → x < a + n → S x = false := by
  induction n generalizing a with
  | zero => intro x h1 h2; omega
  | succ n ih =>
    rw [seg, List.append_eq_nil_iff] at h
    intro x h1 h2
    rcases Nat.eq_or_lt_of_le h1 with e | e
    · subst e
      cases hS : S a
      · rfl
      · rw [hS] at h; simp at h
    · exact ih (a + 1) h.2 x e (by omega)
/-- Addresses grow along the cells. -/
theorem seg_sorted (a n : Nat) : (seg S D a n).Pairwise (fun x y => x.1 < y.1) := by
  induction n generalizing a with
  | zero => simp [seg]
  | succ n ih =>
    rw [seg]
    refine List.pairwise_append.2 ⟨by split <;> simp, ih (a + 1), fun x hx y hy => ?_⟩
    have h1 := seg_mem S D (a + 1) n y hy
    split at hx
    · simp at hx; subst hx; exact h1.1
    · simp at hx
end

/-- The index of the first cell at an address or after it. -/
def fi (L : List (Nat × UInt8)) (a : Int) : Nat := (L.takeWhile fun c => decide ((c.1 : Int) < a)).length
theorem fi_split (L M : List (Nat × UInt8)) (a : Int) (h1 : ∀ c ∈ L, (c.1 : Int) < a) (h2 : ∀ c ∈ M, ¬ (c.1 : Int) < a) : fi (L ++ M) a = L.length := by
  have hm : M.takeWhile (fun c => decide ((c.1 : Int) < a)) = [] := by
    cases M with
    | nil => rfl
    | cons c M => rw [List.takeWhile_cons]; simp [h2 c (List.mem_cons_self)]
  induction L with
  | nil => simp [fi, hm]
  | cons c L ih =>
    unfold fi at ih ⊢
    rw [List.cons_append, List.takeWhile_cons]
    simp [h1 c (List.mem_cons_self), ih (fun x hx => h1 x (List.mem_cons_of_mem _ hx))]

/-- The cells of runs. -/
def flat (R : List (Nat × List UInt8)) : List (Nat × UInt8) := R.flatMap fun r => nw r.1 r.2
/-- Where runs begin; b if there is none. -/
def start (R : List (Nat × List UInt8)) (b : Nat) : Nat := match R with | [] => b | r :: _ => r.1
/-- Runs that are not empty, with gaps between them and ahead of b. -/
def Gp : List (Nat × List UInt8) → Nat → Prop
  | [], _ => True
  | r :: R, b => r.2 ≠ [] ∧ r.1 + r.2.length < start R b ∧ Gp R b
theorem start_snoc (R : List (Nat × List UInt8)) (a b : Nat) (d : List UInt8) : start (R ++ [(a, d)]) b = start R a := by cases R <;> rfl
theorem Gp.snoc {R : List (Nat × List UInt8)} {a b : Nat} {d : List UInt8} (h : Gp R a) (hd : d ≠ []) (hb : a + d.length < b) : Gp (R ++ [(a, d)]) b := by
  induction R with
  | nil => exact ⟨hd, hb, trivial⟩
  | cons r R ih => exact ⟨h.1, (start_snoc R a b d).symm ▸ h.2.1, ih h.2.2⟩
theorem Gp.mono {R : List (Nat × List UInt8)} {a b : Nat} (h : Gp R a) (hab : a ≤ b) : Gp R b := by
  induction R with
  | nil => trivial
  | cons r R ih =>
    refine ⟨h.1, ?_, ih h.2.2⟩
    have := h.2.1
    cases R with
    | nil => exact Nat.lt_of_lt_of_le this hab
    | cons _ _ => exact this
theorem flat_snoc (R : List (Nat × List UInt8)) (a : Nat) (d : List UInt8) : flat (R ++ [(a, d)]) = flat R ++ nw a d := by simp [flat]
theorem nw_length (a : Nat) (l : List UInt8) : (nw a l).length = l.length := by
  induction l generalizing a with
  | nil => rfl
  | cons c l ih => simp [nw, ih]
theorem nw_append (a : Nat) (l m : List UInt8) : nw a (l ++ m) = nw a l ++ nw (a + l.length) m := by
  induction l generalizing a with
  | nil => simp [nw]
  | cons x l ih => simp only [List.cons_append, nw, ih, List.length_cons]; rw [show a + 1 + l.length = a + (l.length + 1) from by omega]
theorem nw_snoc (a : Nat) (l : List UInt8) (c : UInt8) : nw a (l ++ [c]) = nw a l ++ [(a + l.length, c)] := by rw [nw_append]; rfl
/-- One run's end is told by what follows. -/
theorem run_cut (a : Nat) : ∀ (d d' : List UInt8) (L L' : List (Nat × UInt8)), nw a d ++ L = nw a d' ++ L' → (∀ c, L.head? = some c → a + d.length < c.1) → (∀ c, L'.head? = some c → a + d'.length < c.1) → d = d' ∧ L = L' := by
  intro d
  induction d generalizing a with
  | nil =>
    intro d' L L' h h1 h2
    cases d' with
    | nil => exact ⟨rfl, by simpa [nw] using h⟩
    | cons x d' =>
      simp only [nw, List.nil_append, List.cons_append] at h
      have := h1 (a, x) (by rw [h]; rfl)
      simp at this
  | cons x d ih =>
    intro d' L L' h h1 h2
    cases d' with
    | nil =>
      simp only [nw, List.nil_append, List.cons_append] at h
      have := h2 (a, x) (by rw [← h]; rfl)
      simp at this
    | cons y d' =>
      simp only [nw, List.cons_append, List.cons.injEq, Prod.mk.injEq, true_and] at h
      obtain ⟨e1, e2⟩ := ih (a + 1) d' L L' h.2 (fun c hc => by have := h1 c hc; simp at this; omega) (fun c hc => by have := h2 c hc; simp at this; omega)
      exact ⟨by rw [h.1, e1], e2⟩
theorem flat_head {R : List (Nat × List UInt8)} {b : Nat} (h : Gp R b) (c : Nat × UInt8) (hc : (flat R).head? = some c) : c.1 = start R b := by
  cases R with
  | nil => simp [flat] at hc
  | cons r R =>
    obtain ⟨h1, _⟩ := h
    rcases r with ⟨a, d⟩
    cases d with
    | nil => exact absurd rfl h1
    | cons x d =>
      simp [flat, nw] at hc
      subst hc
      rfl
/-- The cells determine the runs. -/
theorem runs_eq : ∀ (R R' : List (Nat × List UInt8)) (b b' : Nat), Gp R b → Gp R' b' → flat R = flat R' → R = R'
  | [], [], _, _, _, _, _ => rfl
  | [], (a, d) :: R', _, _, _, h', e => by
    cases d with
    | nil => exact absurd rfl h'.1
    | cons x d => simp [flat, nw] at e
  | (a, d) :: R, [], _, _, h, _, e => by
    cases d with
    | nil => exact absurd rfl h.1
    | cons x d => simp [flat, nw] at e
  | (a, d) :: R, (a', d') :: R', b, b', h, h', e => by
    have ha : a = a' := by
      cases d with
      | nil => exact absurd rfl h.1
      | cons x d =>
        cases d' with
        | nil => exact absurd rfl h'.1
        | cons y d' => simp [flat, nw] at e; exact e.1.1
    subst ha
    have e' : nw a d ++ flat R = nw a d' ++ flat R' := by simpa [flat] using e
    obtain ⟨e1, e2⟩ := run_cut a d d' _ _ e' (fun c hc => by rw [flat_head h.2.2 c hc]; exact h.2.1) (fun c hc => by rw [flat_head h'.2.2 c hc]; exact h'.2.1)
    rw [e1, runs_eq R R' b b' h.2.2 h'.2.2 e2]
end Go.Proofs.YtmkgppbnhkihjaaDoor
