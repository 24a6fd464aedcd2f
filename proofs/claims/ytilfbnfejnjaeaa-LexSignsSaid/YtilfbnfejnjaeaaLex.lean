/- Plain Lean: the tokens of a line, as functions of its bytes. -/
import Derived.Test.YtilfbnfejnjaeaaForms
import Derived.Test.YtilfbnfejnjaeaaPforms
namespace Go.Proofs.Ytilfbnfejnjaeaa

/-- The capital and small letters. -/
def isAl (c : UInt8) : Bool := decide (65 ≤ c.toNat ∧ c.toNat ≤ 90) || decide (97 ≤ c.toNat ∧ c.toNat ≤ 122)
/-- The four further signs of a word. -/
def isPt (c : UInt8) : Bool := c == 95 || c == 46 || c == 63 || c == 64
def isL (c : UInt8) : Bool := isAl c || isPt c
def isD (c : UInt8) : Bool := decide (48 ≤ c.toNat ∧ c.toNat ≤ 57)
def isLD (c : UInt8) : Bool := isL c || isD c
def isBl (c : UInt8) : Bool := c == 32 || c == 9
/-- How many letters and digits stand in front. -/
def runLen : List UInt8 → Nat
  | [] => 0
  | c :: r => if isLD c then runLen r + 1 else 0
theorem runLen_le : ∀ l : List UInt8, runLen l ≤ l.length
  | [] => Nat.le_refl _
  | c :: r => by
    unfold runLen
    split
    · have := runLen_le r; simp; omega
    · simp
/-- Is the text AF, in letters of any case? -/
def isAF (l : List UInt8) : Bool := l.map upc == [65, 70]
/-- The bytes of the word in front; 0 if there is none. -/
def wordLen : List UInt8 → Nat
  | [] => 0
  | c :: r => if isL c then
      (if isAF ((c :: r).take (runLen (c :: r))) && (c :: r)[runLen (c :: r)]? == some 39 then runLen (c :: r) + 1 else runLen (c :: r))
    else 0
theorem wordLen_cons (c : UInt8) (r : List UInt8) : wordLen (c :: r) = if isL c then
      (if isAF ((c :: r).take (runLen (c :: r))) && (c :: r)[runLen (c :: r)]? == some 39 then runLen (c :: r) + 1 else runLen (c :: r))
    else 0 := rfl
/-- Does a number begin here? -/
def isNum : List UInt8 → Bool
  | [] => false
  | c :: r => isD c || c == 37 || (c == 36 && decide (0 < runLen r))
/-- What stands behind the mark that opens a string: its bytes, and how many bytes they take with the mark that shuts it. -/
def quo (m : UInt8) : List UInt8 → Option (List UInt8 × Nat)
  | [] => none
  | c :: r =>
    if c = m then
      match r with
      | [] => some ([], 1)
      | d :: r' => if d = m then (quo m r').map fun p => (c :: p.1, p.2 + 2) else some ([], 1)
    else (quo m r).map fun p => (c :: p.1, p.2 + 1)
def signL : List UInt8 := [44, 40, 41, 43, 45, 42, 47, 38, 124, 94, 126, 58, 61, 36]
/-- The bytes of the sign in front; 0 if there is none. -/
def signLen : List UInt8 → Nat
  | [] => 0
  | c :: r => if (c :: r).take 2 = [60, 60] ∨ (c :: r).take 2 = [62, 62] then 2 else if c ∈ signL then 1 else 0
theorem signLen_cons (c : UInt8) (r : List UInt8) : signLen (c :: r) = if (c :: r).take 2 = [60, 60] ∨ (c :: r).take 2 = [62, 62] then 2 else if c ∈ signL then 1 else 0 := rfl
/-- A token: its kind, text, number and place. -/
structure Tk where
  kind : Nat
  text : List UInt8
  n : Nat
  at_ : Nat
  deriving DecidableEq
/-- The token in front of l, which begins at place k, and how many bytes it takes; or a code. -/
def tok1 (l : List UInt8) (k : Nat) : Except Nat (Tk × Nat) :=
  if 0 < wordLen l then .ok (⟨1, l.take (wordLen l), 0, k⟩, wordLen l)
  else if isNum l then
    match pval (l.take (1 + runLen (l.drop 1))) with
    | some v => .ok (⟨2, [], v, k⟩, 1 + runLen (l.drop 1))
    | none => .error 3
  else
    match l with
    | [] => .error 20
    | c :: r =>
      if c = 34 ∨ c = 39 then
        match quo c r with
        | some p => .ok (⟨3, p.1, 0, k⟩, p.2 + 1)
        | none => .error 3
      else if signLen (c :: r) = 0 then .error 20 else .ok (⟨4, (c :: r).take (signLen (c :: r)), 0, k⟩, signLen (c :: r))
/-- The blanks in front. -/
def blankLen : List UInt8 → Nat
  | [] => 0
  | c :: r => if isBl c then blankLen r + 1 else 0
theorem blankLen_le : ∀ l : List UInt8, blankLen l ≤ l.length
  | [] => Nat.le_refl _
  | c :: r => by
    unfold blankLen
    split
    · have := blankLen_le r; simp; omega
    · simp
/-- Does the line end here? -/
def isEnd : List UInt8 → Bool
  | [] => true
  | c :: _ => c == 59
/-- The tokens of what is left of a line, l, which begins at place k; at most f tokens. -/
def toks : Nat → List UInt8 → Nat → Except Nat (List Tk)
  | 0, _, _ => .error 99
  | f + 1, l, k =>
    if isEnd (l.drop (blankLen l)) then .ok [⟨0, [], 0, k + blankLen l⟩]
    else
      match tok1 (l.drop (blankLen l)) (k + blankLen l) with
      | .error e => .error e
      | .ok p =>
        match toks f ((l.drop (blankLen l)).drop p.2) (k + blankLen l + p.2) with
        | .error e => .error e
        | .ok ts => .ok (p.1 :: ts)
/-- The tokens of a line. -/
def tokens (l : List UInt8) : Except Nat (List Tk) := if 1024 < l.length then .error 19 else toks (l.length + 1) l 0

theorem wordLen_le (l : List UInt8) : wordLen l ≤ l.length := by
  cases l with
  | nil => simp [wordLen]
  | cons c r =>
    rw [wordLen_cons]
    split
    · split
      · rename_i h2
        rw [Bool.and_eq_true, beq_iff_eq] at h2
        exact (List.getElem?_eq_some_iff.1 h2.2).1
      · exact runLen_le _
    · simp
theorem quo_le (m : UInt8) : ∀ (n : Nat) (l : List UInt8), l.length ≤ n → ∀ p, quo m l = some p → 1 ≤ p.2 ∧ p.2 ≤ l.length ∧ p.1.length + 1 ≤ p.2 := by
  intro n
  induction n with
  | zero => intro l hl p hp; rw [List.eq_nil_of_length_eq_zero (show l.length = 0 by omega)] at hp; cases hp
  | succ n ih =>
    intro l hl p hp
    cases l with
    | nil => cases hp
    | cons c r =>
      unfold quo at hp
      split at hp
      · cases r with
        | nil =>
          obtain rfl := Option.some.inj hp
          simp
        | cons d r' =>
          dsimp only at hp
          split at hp
          · cases hq : quo m r' with
            | none => rw [hq] at hp; cases hp
            | some q =>
              rw [hq] at hp
              obtain rfl := Option.some.inj hp
              have := ih r' (by simp at hl; omega) q hq
              simp
              omega
          · obtain rfl := Option.some.inj hp
            simp
      · cases hq : quo m r with
        | none => rw [hq] at hp; cases hp
        | some q =>
          rw [hq] at hp
          obtain rfl := Option.some.inj hp
          have := ih r (by simp at hl; omega) q hq
          simp
          omega
theorem signLen_le (l : List UInt8) : signLen l ≤ l.length := by
  cases l with
  | nil => simp [signLen]
  | cons c r =>
    rw [signLen_cons]
    split
    · rename_i h
      have : ((c :: r).take 2).length = 2 := by rcases h with h | h <;> rw [h] <;> rfl
      rw [List.length_take] at this
      omega
    · split <;> simp
/-- A token takes at least one byte, and no more than there are. -/
theorem tok1_len {l : List UInt8} {k : Nat} {p : Tk × Nat} (h : tok1 l k = .ok p) : 1 ≤ p.2 ∧ p.2 ≤ l.length ∧ p.1.at_ = k := by
  unfold tok1 at h
  split at h
  · rename_i hw
    injection h with h; subst h
    exact ⟨hw, wordLen_le l, rfl⟩
  · split at h
    · rename_i hn
      split at h
      · injection h with h; subst h
        refine ⟨by simp, ?_, rfl⟩
        have := runLen_le (l.drop 1)
        rw [List.length_drop] at this
        cases l with
        | nil => simp [isNum] at hn
        | cons c r => simp at this ⊢; omega
      · cases h
    · cases l with
      | nil => cases h
      | cons c r =>
        dsimp only at h
        split at h
        · split at h
          · rename_i q hq
            injection h with h; subst h
            have := quo_le c _ r (Nat.le_refl _) q hq
            exact ⟨by simp, by simp; omega, rfl⟩
          · cases h
        · split at h
          · cases h
          · rename_i hs
            injection h with h; subst h
            have := signLen_le (c :: r)
            exact ⟨by simp; omega, by simpa using this, rfl⟩
theorem toks_step {f : Nat} {l : List UInt8} {k : Nat} : toks (f + 1) l k =
    if isEnd (l.drop (blankLen l)) then .ok [⟨0, [], 0, k + blankLen l⟩]
    else
      match tok1 (l.drop (blankLen l)) (k + blankLen l) with
      | .error e => .error e
      | .ok p =>
        match toks f ((l.drop (blankLen l)).drop p.2) (k + blankLen l + p.2) with
        | .error e => .error e
        | .ok ts => .ok (p.1 :: ts) := rfl
/-- More fuel than bytes is enough. -/
theorem toks_fuel : ∀ (f g : Nat) (l : List UInt8) (k : Nat), l.length < f → l.length < g → toks f l k = toks g l k
  | 0, _, _, _, h, _ => absurd h (Nat.not_lt_zero _)
  | _, 0, _, _, _, h => absurd h (Nat.not_lt_zero _)
  | f + 1, g + 1, l, k, hf, hg => by
    rw [toks_step, toks_step]
    split
    · rfl
    · cases ht : tok1 (l.drop (blankLen l)) (k + blankLen l) with
      | error e => rfl
      | ok p =>
        have := tok1_len ht
        dsimp only
        rw [List.length_drop] at this
        rw [toks_fuel f g _ _ (by rw [List.length_drop, List.length_drop]; omega) (by rw [List.length_drop, List.length_drop]; omega)]
end Go.Proofs.Ytilfbnfejnjaeaa
