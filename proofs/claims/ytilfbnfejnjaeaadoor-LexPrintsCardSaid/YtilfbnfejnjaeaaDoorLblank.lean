/- Plain Lean: blanks around a line, and a comment behind it, do not change its tokens. -/
import Derived.Test.YtilfbnfejnjaeaaDoorLex
namespace Go.Proofs.YtilfbnfejnjaeaaDoor

/-- A token without its place. -/
def strip (t : Tk) : Nat × List UInt8 × Nat := (t.kind, t.text, t.n)
theorem runLen_sfx (m : List UInt8) : ∀ l : List UInt8, runLen (l ++ 32 :: m) = runLen l
  | [] => rfl
  | c :: r => by
    rw [List.cons_append, runLen, runLen, runLen_sfx m r]
theorem wordLen_sfx (m : List UInt8) {l : List UInt8} (h : l ≠ []) : wordLen (l ++ 32 :: m) = wordLen l := by
  cases l with
  | nil => exact absurd rfl h
  | cons c r =>
    have hr := runLen_le (c :: r)
    have h1 : runLen (c :: r ++ 32 :: m) = runLen (c :: r) := runLen_sfx m (c :: r)
    have h2 : (c :: r ++ 32 :: m).take (runLen (c :: r)) = (c :: r).take (runLen (c :: r)) := List.take_append_of_le_length hr
    have h3 : ((c :: r ++ 32 :: m)[runLen (c :: r)]? == some 39) = ((c :: r)[runLen (c :: r)]? == some 39) := by
      rcases Nat.lt_or_ge (runLen (c :: r)) (c :: r).length with h' | h'
      · rw [List.getElem?_append_left h']
      · have e : runLen (c :: r) = (c :: r).length := by omega
        rw [e, List.getElem?_append_right (Nat.le_refl _), Nat.sub_self, List.getElem?_eq_none (Nat.le_refl _)]
        rfl
    have key : wordLen (c :: (r ++ 32 :: m)) = wordLen (c :: r) := by
      rw [wordLen_cons, wordLen_cons]
      rw [show c :: (r ++ 32 :: m) = c :: r ++ 32 :: m from rfl, h1, h2, h3]
    exact key
theorem isNum_sfx (m : List UInt8) {l : List UInt8} (h : l ≠ []) : isNum (l ++ 32 :: m) = isNum l := by
  cases l with
  | nil => exact absurd rfl h
  | cons c r =>
    show (isD c || c == 37 || (c == 36 && decide (0 < runLen (r ++ 32 :: m)))) = _
    rw [runLen_sfx]
    rfl
theorem quo_sfx {q : UInt8} (hq : q ≠ 32) (m : List UInt8) : ∀ (n : Nat) (l : List UInt8), l.length ≤ n → ∀ p, quo q l = some p → quo q (l ++ 32 :: m) = some p := by
  intro n
  induction n with
  | zero => intro l hl p hp; rw [List.eq_nil_of_length_eq_zero (show l.length = 0 by omega)] at hp; cases hp
  | succ n ih =>
    intro l hl p hp
    cases l with
    | nil => cases hp
    | cons c r =>
      by_cases hc : c = q
      · subst hc
        cases r with
        | nil =>
          rw [quo.eq_def] at hp ⊢
          dsimp only [List.cons_append, List.nil_append] at hp ⊢
          rw [if_pos rfl] at hp ⊢
          rw [if_neg (fun e => hq e.symm)]
          exact hp
        | cons d r' =>
          rw [quo.eq_def] at hp ⊢
          dsimp only [List.cons_append] at hp ⊢
          rw [if_pos rfl] at hp ⊢
          by_cases hd : d = c
          · rw [if_pos hd] at hp ⊢
            cases hr : quo c r' with
            | none => rw [hr] at hp; cases hp
            | some y =>
              rw [hr] at hp
              rw [ih r' (by simp at hl; omega) y hr]
              exact hp
          · rw [if_neg hd] at hp ⊢
            exact hp
      · rw [quo.eq_def] at hp ⊢
        dsimp only [List.cons_append] at hp ⊢
        rw [if_neg hc] at hp ⊢
        cases hr : quo q r with
        | none => rw [hr] at hp; cases hp
        | some y =>
          rw [hr] at hp
          rw [ih r (by simp at hl; omega) y hr]
          exact hp
theorem signLen_sfx (m : List UInt8) {l : List UInt8} (h : l ≠ []) : signLen (l ++ 32 :: m) = signLen l := by
  cases l with
  | nil => exact absurd rfl h
  | cons c r =>
    have key : signLen (c :: (r ++ 32 :: m)) = signLen (c :: r) := by
      rw [signLen_cons, signLen_cons]
      cases r with
      | nil =>
        rw [if_neg (show ¬ ((c :: ([] ++ 32 :: m)).take 2 = [60, 60] ∨ (c :: ([] ++ 32 :: m)).take 2 = [62, 62]) by simp), if_neg (show ¬ ([c].take 2 = [60, 60] ∨ [c].take 2 = [62, 62]) by simp)]
      | cons d r' => rfl
    exact key
theorem tok1_sfx_ok (m : List UInt8) {l : List UInt8} {k : Nat} {p : Tk × Nat} (h : l ≠ []) (ht : tok1 l k = .ok p) (k' : Nat) : ∃ q, tok1 (l ++ 32 :: m) k' = .ok q ∧ strip q.1 = strip p.1 ∧ q.2 = p.2 := by
  have hlen := (tok1_len ht).2.1
  unfold tok1 at ht ⊢
  rw [wordLen_sfx m h, isNum_sfx m h]
  by_cases hw : 0 < wordLen l
  · rw [if_pos hw] at ht ⊢
    injection ht with ht
    subst ht
    exact ⟨_, rfl, by unfold strip; dsimp only; rw [List.take_append_of_le_length hlen], rfl⟩
  · rw [if_neg hw] at ht ⊢
    cases hn : isNum l with
    | true =>
      rw [hn] at ht
      simp only [if_true] at ht ⊢
      have hd : (l ++ 32 :: m).drop 1 = l.drop 1 ++ 32 :: m := List.drop_append_of_le_length (by have := List.length_pos_iff.2 h; omega)
      rw [hd, runLen_sfx]
      have hr := runLen_le (l.drop 1)
      rw [List.length_drop] at hr
      rw [List.take_append_of_le_length (by have := List.length_pos_iff.2 h; omega)]
      cases hv : pval (l.take (1 + runLen (l.drop 1))) with
      | none => rw [hv] at ht; cases ht
      | some v =>
        rw [hv] at ht
        injection ht with ht
        subst ht
        exact ⟨_, rfl, rfl, rfl⟩
    | false =>
      rw [hn] at ht
      simp only [Bool.false_eq_true, if_false] at ht ⊢
      cases l with
      | nil => exact absurd rfl h
      | cons c r =>
        dsimp only [List.cons_append] at ht ⊢
        by_cases hm : c = 34 ∨ c = 39
        · rw [if_pos hm] at ht ⊢
          cases hq : quo c r with
          | none => rw [hq] at ht; cases ht
          | some y =>
            rw [hq] at ht
            injection ht with ht
            subst ht
            have hc32 : c ≠ 32 := by rcases hm with rfl | rfl <;> decide
            rw [quo_sfx hc32 m _ r (Nat.le_refl _) y hq]
            exact ⟨_, rfl, rfl, rfl⟩
        · rw [if_neg hm] at ht ⊢
          have hs := signLen_sfx m h
          rw [List.cons_append] at hs
          rw [hs]
          by_cases h0 : signLen (c :: r) = 0
          · rw [if_pos h0] at ht; cases ht
          · rw [if_neg h0] at ht ⊢
            injection ht with ht
            subst ht
            refine ⟨_, rfl, ?_, rfl⟩
            unfold strip
            dsimp only
            rw [show c :: (r ++ 32 :: m) = (c :: r) ++ 32 :: m from rfl, List.take_append_of_le_length hlen]
theorem tok1_sfx_err (m : List UInt8) {l : List UInt8} {k e : Nat} (h : l ≠ []) (ht : tok1 l k = .error e) (hq : ∀ c ∈ l, c ≠ 34 ∧ c ≠ 39) (k' : Nat) : tok1 (l ++ 32 :: m) k' = .error e := by
  unfold tok1 at ht ⊢
  rw [wordLen_sfx m h, isNum_sfx m h]
  by_cases hw : 0 < wordLen l
  · rw [if_pos hw] at ht
    cases ht
  · rw [if_neg hw] at ht ⊢
    cases hn : isNum l with
    | true =>
      rw [hn] at ht
      simp only [if_true] at ht ⊢
      have hd : (l ++ 32 :: m).drop 1 = l.drop 1 ++ 32 :: m := List.drop_append_of_le_length (by have := List.length_pos_iff.2 h; omega)
      rw [hd, runLen_sfx]
      have hr := runLen_le (l.drop 1)
      rw [List.length_drop] at hr
      rw [List.take_append_of_le_length (by have := List.length_pos_iff.2 h; omega)]
      cases hv : pval (l.take (1 + runLen (l.drop 1))) with
      | none => rw [hv] at ht; exact ht
      | some v => rw [hv] at ht; cases ht
    | false =>
      rw [hn] at ht
      simp only [Bool.false_eq_true, if_false] at ht ⊢
      cases l with
      | nil => exact absurd rfl h
      | cons c r =>
        dsimp only [List.cons_append] at ht ⊢
        have hm : ¬ (c = 34 ∨ c = 39) := fun e => by
          have := hq c (by simp)
          rcases e with e | e
          · exact this.1 e
          · exact this.2 e
        rw [if_neg hm] at ht ⊢
        have hs := signLen_sfx m h
        rw [List.cons_append] at hs
        rw [hs]
        by_cases h0 : signLen (c :: r) = 0
        · rw [if_pos h0] at ht ⊢; exact ht
        · rw [if_neg h0] at ht; cases ht
theorem blankLen_stop : ∀ {l : List UInt8} (s : List UInt8), l.drop (blankLen l) ≠ [] → blankLen (l ++ s) = blankLen l
  | [], s, h => absurd rfl h
  | c :: r, s, h => by
    rw [List.cons_append, blankLen, blankLen]
    by_cases hb : isBl c = true
    · rw [if_pos hb, if_pos hb, blankLen_stop s (by rw [blankLen, if_pos hb] at h; exact h)]
    · rw [if_neg hb, if_neg hb]
theorem blankLen_all : ∀ {l : List UInt8} (s : List UInt8), l.drop (blankLen l) = [] → blankLen (l ++ s) = l.length + blankLen s
  | [], s, _ => by simp
  | c :: r, s, h => by
    rw [List.cons_append, blankLen]
    rw [blankLen] at h
    by_cases hb : isBl c = true
    · rw [if_pos hb] at h ⊢
      rw [blankLen_all s (by simpa using h), List.length_cons]
      omega
    · rw [if_neg hb] at h
      cases h
/-- What stands behind the line. -/
def tailOf (cmt : List UInt8) : List UInt8 := 32 :: 9 :: 59 :: cmt
theorem toks_sfx (cmt : List UInt8) : ∀ (f : Nat) (l : List UInt8) (k f' k' : Nat), l.length < f → (l ++ tailOf cmt).length < f' →
    (∀ ts, toks f l k = .ok ts → ∃ us, toks f' (l ++ tailOf cmt) k' = .ok us ∧ us.map strip = ts.map strip) ∧
    (∀ e, toks f l k = .error e → (∀ c ∈ l, c ≠ 34 ∧ c ≠ 39) → toks f' (l ++ tailOf cmt) k' = .error e) := by
  intro f
  induction f with
  | zero => intro l k f' k' h; omega
  | succ f ih =>
    intro l k f' k' hf hf'
    cases f' with
    | zero => omega
    | succ f' =>
      rw [toks_step, toks_step]
      by_cases hnil : l.drop (blankLen l) = []
      · have h1 := blankLen_all (tailOf cmt) hnil
        have h2 : (l ++ tailOf cmt).drop (blankLen (l ++ tailOf cmt)) = 59 :: cmt := by
          rw [h1, ← List.drop_drop, List.drop_left]
          rfl
        rw [hnil, h2]
        refine ⟨fun ts h => ?_, fun e h => ?_⟩
        · injection h with h
          subst h
          exact ⟨_, rfl, rfl⟩
        · cases h
      · have h1 := blankLen_stop (tailOf cmt) hnil
        have hle := blankLen_le l
        have h2 : (l ++ tailOf cmt).drop (blankLen (l ++ tailOf cmt)) = l.drop (blankLen l) ++ tailOf cmt := by
          rw [h1, List.drop_append_of_le_length hle]
        rw [h2, h1]
        obtain ⟨l1, hl1⟩ : ∃ l1, l.drop (blankLen l) = l1 := ⟨_, rfl⟩
        have hsub : ∀ c ∈ l1, c ∈ l := fun c hc => by rw [← hl1] at hc; exact List.mem_of_mem_drop hc
        have hlen1 : l1.length ≤ l.length := by rw [← hl1, List.length_drop]; omega
        rw [hl1] at hnil ⊢
        have hE : isEnd (l1 ++ tailOf cmt) = isEnd l1 := by
          cases l1 with
          | nil => exact absurd rfl hnil
          | cons c r => rfl
        rw [hE]
        by_cases he : isEnd l1 = true
        · rw [if_pos he, if_pos he]
          refine ⟨fun ts h => ?_, fun e h => ?_⟩
          · injection h with h
            subst h
            exact ⟨_, rfl, rfl⟩
          · cases h
        · rw [if_neg he, if_neg he]
          cases ht : tok1 l1 (k + blankLen l) with
          | error e0 =>
            refine ⟨fun ts h => (by cases h), fun e h hq => ?_⟩
            have := tok1_sfx_err (9 :: 59 :: cmt) hnil ht (fun c hc => hq c (hsub c hc)) (k' + blankLen l)
            rw [show l1 ++ 32 :: 9 :: 59 :: cmt = l1 ++ tailOf cmt from rfl] at this
            rw [this]
            exact h
          | ok p =>
            have hp := tok1_len ht
            obtain ⟨q, hq1, hq2, hq3⟩ := tok1_sfx_ok (9 :: 59 :: cmt) hnil ht (k' + blankLen l)
            rw [show l1 ++ 32 :: 9 :: 59 :: cmt = l1 ++ tailOf cmt from rfl] at hq1
            rw [hq1]
            dsimp only
            rw [hq3, List.drop_append_of_le_length hp.2.1]
            obtain ⟨i1, i2⟩ := ih (l1.drop p.2) (k + blankLen l + p.2) f' (k' + blankLen l + p.2) (by rw [List.length_drop]; omega) (by
              simp only [List.length_append, List.length_drop] at hf' ⊢
              omega)
            cases hu : toks f (l1.drop p.2) (k + blankLen l + p.2) with
            | error e0 =>
              refine ⟨fun ts h => (by cases h), fun e h hqq => ?_⟩
              rw [i2 e0 hu (fun c hc => hqq c (hsub c (List.mem_of_mem_drop hc)))]
              exact h
            | ok ts0 =>
              obtain ⟨us0, hus, hms⟩ := i1 ts0 hu
              refine ⟨fun ts h => ?_, fun e h => (by cases h)⟩
              injection h with h
              subst h
              rw [hus]
              exact ⟨_, rfl, by rw [List.map_cons, List.map_cons, hms, hq2]⟩
theorem toks_pre {pre : List UInt8} (hp : ∀ c ∈ pre, isBl c = true) (f : Nat) (l : List UInt8) (k : Nat) : toks f (pre ++ l) k = toks f l (k + pre.length) := by
  have hb : ∀ {pre : List UInt8}, (∀ c ∈ pre, isBl c = true) → blankLen (pre ++ l) = pre.length + blankLen l := by
    intro pre
    induction pre with
    | nil => intro _; simp
    | cons c r ih =>
      intro h
      rw [List.cons_append, blankLen, if_pos (h c (by simp)), ih (fun d hd => h d (by simp [hd])), List.length_cons]
      omega
  cases f with
  | zero => rfl
  | succ f =>
    rw [toks_step, toks_step, hb hp]
    have hd : (pre ++ l).drop (pre.length + blankLen l) = l.drop (blankLen l) := by rw [← List.drop_drop, List.drop_left]
    rw [hd, show k + (pre.length + blankLen l) = k + pre.length + blankLen l from by omega]
/-- Blanks around a line and a comment behind it. -/
theorem tokens_around {pre l cmt : List UInt8} (hp : ∀ c ∈ pre, isBl c = true) (hl : l.length ≤ 1024) (hs : (pre ++ (l ++ tailOf cmt)).length ≤ 1024) :
    (∀ ts, tokens l = .ok ts → ∃ us, tokens (pre ++ (l ++ tailOf cmt)) = .ok us ∧ us.map strip = ts.map strip) ∧
    (∀ e, tokens l = .error e → (∀ c ∈ l, c ≠ 34 ∧ c ≠ 39) → tokens (pre ++ (l ++ tailOf cmt)) = .error e) := by
  unfold tokens
  rw [if_neg (by omega), if_neg (by omega), toks_pre hp]
  exact toks_sfx cmt _ l 0 _ _ (by omega) (by simp only [List.length_append]; omega)
end Go.Proofs.YtilfbnfejnjaeaaDoor
