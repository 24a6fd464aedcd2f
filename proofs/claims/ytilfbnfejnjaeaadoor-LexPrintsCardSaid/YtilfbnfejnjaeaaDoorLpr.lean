/- Plain Lean: the tokens of what is printed of the tokens of a line. -/
import Derived.Test.YtilfbnfejnjaeaaDoorLquote
import Derived.Test.YtilfbnfejnjaeaaDoorLblank
import Derived.Test.YtilfbnfejnjaeaaDoorLawNtexts
namespace Go.Proofs.YtilfbnfejnjaeaaDoor

/-- What is printed of a token. -/
def prT (t : Tk) : List UInt8 := if t.kind = 1 ∨ t.kind = 4 then t.text else if t.kind = 2 then textOf (t.n : Int) else if t.kind = 3 then qt 34 t.text else []
def prL : List Tk → List UInt8
  | [] => []
  | [t] => prT t
  | t :: u :: ts => prT t ++ 32 :: prL (u :: ts)
theorem prL_cons {t : Tk} {ts : List Tk} (h : ts ≠ []) : prL (t :: ts) = prT t ++ 32 :: prL ts := by
  cases ts with
  | nil => exact absurd rfl h
  | cons u ts => rfl
theorem hd_isLD : ∀ d : Fin 16, isLD (hd d.val) = true ∧ ((hd d.val).toNat ≤ 57 → isD (hd d.val) = true) ∧ (d.val ≤ 9 → isD (hd d.val) = true) := by decide +kernel
theorem hexU_all (n : Nat) : ∀ x ∈ hexU n, ∃ d, d < 16 ∧ x = hd d := by
  induction n using Nat.strongRecOn with
  | ind n ih =>
    intro x hx
    by_cases h : n < 16
    · rw [hexU_small h] at hx
      exact ⟨n, h, List.mem_singleton.1 hx⟩
    · rw [hexU_big h] at hx
      rcases List.mem_append.1 hx with hx | hx
      · exact ih (n / 16) (by omega) x hx
      · exact ⟨n % 16, by omega, List.mem_singleton.1 hx⟩
theorem text_digits (v : Nat) (h : v ≤ 65535) : ∃ c r, textOf (v : Int) = c :: r ∧ isD c = true ∧ ∀ x ∈ r, isLD x = true := by
  by_cases h9 : (v : Int) ≤ 9
  · rw [textOf, if_neg (by omega), if_pos h9, Int.toNat_natCast]
    exact ⟨_, [], rfl, (hd_isLD ⟨v, by omega⟩).2.2 (by show v ≤ 9; omega), fun x hx => (by cases hx)⟩
  · rw [textOf, if_neg (by omega), if_neg h9, Int.toNat_natCast]
    obtain ⟨d, h1, h2, r, hr⟩ := hexU_head v (by omega)
    have hall := hexU_all v
    rw [hr] at hall
    have hrest : ∀ x ∈ r, isLD x = true := fun x hx => by
      obtain ⟨d', hd', rfl⟩ := hall x (by simp [hx])
      exact (hd_isLD ⟨d', hd'⟩).1
    unfold hexZ
    rw [hr]
    dsimp only
    by_cases h57 : 57 < (hd d).toNat
    · rw [if_pos h57]
      refine ⟨48, hd d :: (r ++ [72]), rfl, rfl, fun x hx => ?_⟩
      rcases List.mem_cons.1 hx with rfl | hx
      · exact (hd_isLD ⟨d, h1⟩).1
      · rcases List.mem_append.1 hx with hx | hx
        · exact hrest x hx
        · rw [List.mem_singleton.1 hx]; rfl
    · rw [if_neg h57]
      refine ⟨hd d, r ++ [72], rfl, (hd_isLD ⟨d, h1⟩).2.1 (by show (hd d).toNat ≤ 57; omega), fun x hx => ?_⟩
      rcases List.mem_append.1 hx with hx | hx
      · exact hrest x hx
      · rw [List.mem_singleton.1 hx]; rfl
theorem pval_text (v : Nat) (h : v ≤ 65535) : pval (textOf (v : Int)) = some v := by
  have := ptext_in (v : Int) (by omega) (by omega)
  cases hp : pval (textOf (v : Int)) with
  | none => rw [hp] at this; simp [dgV] at this
  | some m =>
    rw [hp] at this
    simp [dgV] at this
    rw [show m = v from by omega]
theorem runLen_all {r m : List UInt8} (h : ∀ x ∈ r, isLD x = true) : runLen (r ++ 32 :: m) = r.length := by
  induction r with
  | nil => rfl
  | cons c r ih =>
    rw [List.cons_append, runLen, if_pos (h c (by simp)), ih (fun x hx => h x (by simp [hx])), List.length_cons]
theorem isD_facts : ∀ n : Fin 256, isD (UInt8.ofNat n.val) = true → isL (UInt8.ofNat n.val) = false ∧ isBl (UInt8.ofNat n.val) = false ∧ (UInt8.ofNat n.val == 59) = false := by decide +kernel
theorem isD_not {c : UInt8} (h : isD c = true) : isL c = false ∧ isBl c = false ∧ (c == 59) = false := by
  have := isD_facts ⟨c.toNat, c.toNat_lt⟩
  rw [show UInt8.ofNat (⟨c.toNat, c.toNat_lt⟩ : Fin 256).val = c from by simp] at this
  exact this h
theorem isLn_facts : ∀ n : Fin 256, isL (UInt8.ofNat n.val) = true → isBl (UInt8.ofNat n.val) = false ∧ (UInt8.ofNat n.val == 59) = false := by decide +kernel
theorem isLn_not {c : UInt8} (h : isL c = true) : isBl c = false ∧ (c == 59) = false := by
  have := isLn_facts ⟨c.toNat, c.toNat_lt⟩
  rw [show UInt8.ofNat (⟨c.toNat, c.toNat_lt⟩ : Fin 256).val = c from by simp] at this
  exact this h
theorem sgn_facts : ∀ n : Fin 256, UInt8.ofNat n.val ∈ signL → isL (UInt8.ofNat n.val) = false ∧ isD (UInt8.ofNat n.val) = false ∧ UInt8.ofNat n.val ≠ 37 ∧ UInt8.ofNat n.val ≠ 34 ∧ UInt8.ofNat n.val ≠ 39 ∧ isBl (UInt8.ofNat n.val) = false ∧ (UInt8.ofNat n.val == 59) = false := by decide +kernel
theorem sgn_not {c : UInt8} (h : c ∈ signL) : isL c = false ∧ isD c = false ∧ c ≠ 37 ∧ c ≠ 34 ∧ c ≠ 39 ∧ isBl c = false ∧ (c == 59) = false := by
  have := sgn_facts ⟨c.toNat, c.toNat_lt⟩
  rw [show UInt8.ofNat (⟨c.toNat, c.toNat_lt⟩ : Fin 256).val = c from by simp] at this
  exact this h
theorem runLen_take : ∀ l : List UInt8, ∀ x ∈ l.take (runLen l), isLD x = true
  | [], x, hx => by cases hx
  | c :: r, x, hx => by
    rw [runLen] at hx
    by_cases hc : isLD c = true
    · rw [if_pos hc, List.take_succ_cons] at hx
      rcases List.mem_cons.1 hx with rfl | hx
      · exact hc
      · exact runLen_take r x hx
    · rw [if_neg hc] at hx
      cases hx
/-- A word as a whole, with a blank behind it, is the word again. -/
theorem word_again {l : List UInt8} (h : 0 < wordLen l) (m : List UInt8) :
    wordLen (l.take (wordLen l) ++ 32 :: m) = wordLen l ∧ ∃ c r, l.take (wordLen l) = c :: r ∧ isL c = true := by
  cases l with
  | nil => simp [wordLen] at h
  | cons c r =>
    by_cases hc : isL c = true
    · have hld := isL_LD hc
      obtain ⟨n, hn⟩ : ∃ n, runLen (c :: r) = n + 1 := ⟨runLen r, by rw [runLen, if_pos hld]⟩
      have hrle := runLen_le (c :: r)
      have htk := runLen_take (c :: r)
      rw [hn] at hrle htk
      have hwl : wordLen (c :: r) = if (isAF ((c :: r).take (n + 1)) && (c :: r)[n + 1]? == some 39) = true then n + 2 else n + 1 := by
        rw [wordLen_cons, if_pos hc, hn]
      obtain ⟨w, hw⟩ : ∃ w, r.take n = w := ⟨_, rfl⟩
      have hwlen : w.length = n := by rw [← hw, List.length_take]; simp at hrle; omega
      have htake : (c :: r).take (n + 1) = c :: w := by rw [List.take_succ_cons, hw]
      rw [htake] at htk hwl
      by_cases haf : (isAF (c :: w) && (c :: r)[n + 1]? == some 39) = true
      · rw [if_pos haf] at hwl
        rw [Bool.and_eq_true, beq_iff_eq] at haf
        have ht2 : (c :: r).take (n + 2) = c :: w ++ [39] := by rw [List.take_add_one, htake, haf.2]; rfl
        rw [hwl, ht2]
        refine ⟨?_, c, w ++ [39], rfl, hc⟩
        have hrun : runLen (c :: (w ++ [39] ++ 32 :: m)) = n + 1 := by
          have : ∀ (a : List UInt8), (∀ x ∈ a, isLD x = true) → runLen (a ++ 39 :: 32 :: m) = a.length := by
            intro a
            induction a with
            | nil => intro _; rfl
            | cons d a ih => intro hd; rw [List.cons_append, runLen, if_pos (hd d (by simp)), ih (fun x hx => hd x (by simp [hx])), List.length_cons]
          have h2 := this (c :: w) htk
          rw [List.length_cons, hwlen] at h2
          simpa using h2
        show wordLen (c :: (w ++ [39] ++ 32 :: m)) = n + 2
        rw [wordLen_cons, if_pos hc, hrun]
        have e1 : (c :: (w ++ [39] ++ 32 :: m)).take (n + 1) = c :: w := by
          rw [List.take_succ_cons, List.append_assoc, List.take_append_of_le_length (by omega), List.take_of_length_le (by omega)]
        have e2 : (c :: (w ++ [39] ++ 32 :: m))[n + 1]? = some 39 := by
          rw [List.getElem?_cons_succ, List.append_assoc, List.getElem?_append_right (by omega), hwlen, Nat.sub_self]
          rfl
        rw [e1, e2, haf.1]
        rfl
      · rw [if_neg haf] at hwl
        rw [hwl, htake]
        refine ⟨?_, c, w, rfl, hc⟩
        have hrun : runLen (c :: (w ++ 32 :: m)) = n + 1 := by
          have h2 := runLen_all (m := m) htk
          rw [List.length_cons, hwlen] at h2
          exact h2
        show wordLen (c :: (w ++ 32 :: m)) = n + 1
        rw [wordLen_cons, if_pos hc, hrun]
        have e2 : ((c :: (w ++ 32 :: m))[n + 1]? == some 39) = false := by
          rw [List.getElem?_cons_succ, List.getElem?_append_right (by omega), hwlen, Nat.sub_self]
          rfl
        rw [e2, Bool.and_false]
        rfl
    · rw [wordLen_cons, if_neg hc] at h
      omega
/-- What is printed of a token of a line, with a blank behind it, is that token again. -/
theorem tok_again {l : List UInt8} {k : Nat} {p : Tk × Nat} (h : tok1 l k = .ok p) (m : List UInt8) (k' : Nat) :
    ∃ q, tok1 (prT p.1 ++ 32 :: m) k' = .ok (q, (prT p.1).length) ∧ strip q = strip p.1 ∧ ∃ c r, prT p.1 = c :: r ∧ isBl c = false ∧ (c == 59) = false := by
  unfold tok1 at h
  by_cases hw : 0 < wordLen l
  · rw [if_pos hw] at h
    injection h with h
    subst h
    obtain ⟨h1, c, r, h2, h3⟩ := word_again hw m
    have hp : prT ⟨1, l.take (wordLen l), 0, k⟩ = l.take (wordLen l) := rfl
    rw [hp]
    have hlen : (l.take (wordLen l)).length = wordLen l := by rw [List.length_take]; have := wordLen_le l; omega
    refine ⟨⟨1, l.take (wordLen l), 0, k'⟩, ?_, rfl, c, r, h2, (isLn_not h3).1, (isLn_not h3).2⟩
    rw [hlen]
    unfold tok1
    rw [h1, if_pos hw, List.take_append_of_le_length (by omega), List.take_of_length_le (by omega)]
  · rw [if_neg hw] at h
    cases hn : isNum l with
    | true =>
      rw [hn] at h
      simp only [if_true] at h
      cases hv : pval (l.take (1 + runLen (l.drop 1))) with
      | none => rw [hv] at h; cases h
      | some v =>
        rw [hv] at h
        injection h with h
        subst h
        have hv2 : v ≤ 65535 := by
          rcases pval_cases (l.take (1 + runLen (l.drop 1))) with ⟨h0, _⟩ | ⟨j, n, hj, hf, hp, _⟩
          · rw [hv] at h0; cases h0
          · rw [hv] at hp
            obtain rfl := Option.some.inj hp
            exact nval_le (fval_cut hf).2
        obtain ⟨c, r, h1, h2, h3⟩ := text_digits v hv2
        have hp : prT ⟨2, [], v, k⟩ = c :: r := h1
        rw [hp]
        obtain ⟨g1, g2, g3⟩ := isD_not h2
        refine ⟨⟨2, [], v, k'⟩, ?_, rfl, c, r, rfl, g2, g3⟩
        have hwl : wordLen (c :: (r ++ 32 :: m)) = 0 := by rw [wordLen_cons, g1]; rfl
        have hnn : isNum (c :: (r ++ 32 :: m)) = true := by
          show (isD c || c == 37 || (c == 36 && decide (0 < runLen (r ++ 32 :: m)))) = true
          rw [h2]
          rfl
        show tok1 (c :: (r ++ 32 :: m)) k' = _
        unfold tok1
        rw [hwl, hnn]
        simp only [Nat.lt_irrefl, if_false, if_true]
        rw [show (c :: (r ++ 32 :: m)).drop 1 = r ++ 32 :: m from rfl, runLen_all h3]
        have ht : (c :: (r ++ 32 :: m)).take (1 + r.length) = c :: r := by
          rw [Nat.add_comm, List.take_succ_cons, List.take_append_of_le_length (Nat.le_refl _), List.take_of_length_le (Nat.le_refl _)]
        rw [ht, ← h1, pval_text v hv2, h1, List.length_cons, Nat.add_comm]
    | false =>
      rw [hn] at h
      simp only [Bool.false_eq_true, if_false] at h
      cases l with
      | nil => cases h
      | cons c r =>
        dsimp only at h
        by_cases hm : c = 34 ∨ c = 39
        · rw [if_pos hm] at h
          cases hq : quo c r with
          | none => rw [hq] at h; cases h
          | some y =>
            rw [hq] at h
            injection h with h
            subst h
            have hp : prT ⟨3, y.1, 0, k⟩ = 34 :: (dbl 34 y.1 ++ [34]) := rfl
            rw [hp]
            refine ⟨⟨3, y.1, 0, k'⟩, ?_, rfl, 34, _, rfl, rfl, rfl⟩
            have hq2 : quo 34 (dbl 34 y.1 ++ [34] ++ 32 :: m) = some (y.1, (dbl 34 y.1).length + 1) := by
              rw [List.append_assoc]
              exact quo_dbl (r := 32 :: m) (by simp) y.1
            show tok1 (34 :: (dbl 34 y.1 ++ [34] ++ 32 :: m)) k' = _
            unfold tok1
            rw [show wordLen (34 :: (dbl 34 y.1 ++ [34] ++ 32 :: m)) = 0 from rfl, show isNum (34 :: (dbl 34 y.1 ++ [34] ++ 32 :: m)) = false from rfl]
            simp only [Nat.lt_irrefl, Bool.false_eq_true, if_false]
            rw [if_pos (.inl trivial), hq2]
            simp
        · rw [if_neg hm] at h
          by_cases h0 : signLen (c :: r) = 0
          · rw [if_pos h0] at h; cases h
          · rw [if_neg h0] at h
            injection h with h
            subst h
            have hp : prT ⟨4, (c :: r).take (signLen (c :: r)), 0, k⟩ = (c :: r).take (signLen (c :: r)) := rfl
            rw [hp]
            rw [signLen_cons] at h0 ⊢
            by_cases h2 : (c :: r).take 2 = [60, 60] ∨ (c :: r).take 2 = [62, 62]
            · rw [if_pos h2]
              rcases h2 with h2 | h2
              · rw [h2]
                exact ⟨⟨4, [60, 60], 0, k'⟩, rfl, rfl, 60, [60], rfl, rfl, rfl⟩
              · rw [h2]
                exact ⟨⟨4, [62, 62], 0, k'⟩, rfl, rfl, 62, [62], rfl, rfl, rfl⟩
            · rw [if_neg h2] at h0 ⊢
              by_cases h3 : c ∈ signL
              · rw [if_pos h3]
                obtain ⟨g1, g2, g3, g4, g5, g6, g7⟩ := sgn_not h3
                refine ⟨⟨4, [c], 0, k'⟩, ?_, rfl, c, [], rfl, g6, g7⟩
                show tok1 (c :: 32 :: m) k' = _
                unfold tok1
                have e1 : wordLen (c :: 32 :: m) = 0 := by rw [wordLen_cons, g1]; rfl
                have e2 : isNum (c :: 32 :: m) = false := by
                  show (isD c || c == 37 || (c == 36 && decide (0 < runLen (32 :: m)))) = false
                  rw [g2, show runLen (32 :: m) = 0 from rfl]
                  simp [g3]
                have e3 : signLen (c :: 32 :: m) = 1 := by
                  rw [signLen_cons, if_neg (by simp), if_pos h3]
                rw [e1, e2]
                simp only [Nat.lt_irrefl, Bool.false_eq_true, if_false]
                rw [if_neg (fun h => h.elim g4 g5), e3]
                rfl
              · rw [if_neg h3] at h0
                exact absurd rfl h0
theorem prT_end (k : Nat) : prT ⟨0, [], 0, k⟩ = [] := rfl
theorem prL_end (k : Nat) : prL [⟨0, [], 0, k⟩] = [] := rfl
theorem toks_ne : ∀ {f : Nat} {l : List UInt8} {k : Nat} {ts : List Tk}, toks f l k = .ok ts → ts ≠ []
  | 0, _, _, _, h => by cases h
  | f + 1, l, k, ts, h => by
    rw [toks_step] at h
    split at h
    · injection h with h; subst h; simp
    · cases ht : tok1 (l.drop (blankLen l)) (k + blankLen l) with
      | error e => rw [ht] at h; cases h
      | ok p =>
        rw [ht] at h
        dsimp only at h
        cases hu : toks f ((l.drop (blankLen l)).drop p.2) (k + blankLen l + p.2) with
        | error e => rw [hu] at h; cases h
        | ok us => rw [hu] at h; injection h with h; subst h; simp
/-- What is printed of the tokens of a line has the same tokens, but for their places. -/
theorem toks_again : ∀ (f : Nat) (l : List UInt8) (k : Nat) (ts : List Tk), toks f l k = .ok ts → ∀ (f' k' : Nat), (prL ts).length < f' → ∃ us, toks f' (prL ts) k' = .ok us ∧ us.map strip = ts.map strip
  | 0, _, _, _, h, _, _, _ => by cases h
  | _ + 1, _, _, _, _, 0, _, h' => absurd h' (Nat.not_lt_zero _)
  | f + 1, l, k, ts, h, f' + 1, k', hf => by
    rw [toks_step] at h
    by_cases he : isEnd (l.drop (blankLen l)) = true
    · rw [if_pos he] at h
      injection h with h
      subst h
      rw [prL_end]
      exact ⟨_, rfl, rfl⟩
    · rw [if_neg he] at h
      cases ht : tok1 (l.drop (blankLen l)) (k + blankLen l) with
      | error e => rw [ht] at h; cases h
      | ok p =>
        rw [ht] at h
        dsimp only at h
        cases hu : toks f ((l.drop (blankLen l)).drop p.2) (k + blankLen l + p.2) with
        | error e => rw [hu] at h; cases h
        | ok us0 =>
          rw [hu] at h
          injection h with h
          subst h
          have hne := toks_ne hu
          rw [prL_cons hne] at hf ⊢
          obtain ⟨q, hq, hs, c, r, hc, hb, hn⟩ := tok_again ht (prL us0) k'
          have hlen := congrArg List.length hc
          rw [List.length_cons] at hlen
          rw [List.length_append, List.length_cons] at hf
          obtain ⟨vs, hv, hvs⟩ := toks_again f _ _ us0 hu f' (k' + (prT p.1).length + 1) (by omega)
          have hbl : blankLen (prT p.1 ++ 32 :: prL us0) = 0 := by rw [hc, List.cons_append, blankLen, hb]; rfl
          have hend : isEnd (prT p.1 ++ 32 :: prL us0) = false := by rw [hc]; exact hn
          refine ⟨q :: vs, ?_, ?_⟩
          · rw [toks_step, hbl, List.drop_zero, hend, Nat.add_zero, hq]
            simp only [Bool.false_eq_true, if_false]
            rw [List.drop_left]
            have := toks_pre (pre := [32]) (fun c hc => by rw [List.mem_singleton.1 hc]; rfl) f' (prL us0) (k' + (prT p.1).length)
            rw [show [32] ++ prL us0 = 32 :: prL us0 from rfl] at this
            rw [this, show ([32] : List UInt8).length = 1 from rfl, hv]
          · rw [List.map_cons, List.map_cons, hs, hvs]
theorem nacc_lt {b : Nat} : ∀ {l : List UInt8} {n m : Nat}, nacc b n l = some m → m + 1 ≤ (n + 1) * b ^ l.length
  | [], n, m, h => by injection h with h; subst h; simp
  | c :: l, n, m, h => by
    rw [nacc_cons] at h
    split at h
    · rename_i h2
      have := nacc_lt h
      rw [List.length_cons, Nat.pow_succ]
      have h3 : n * b + hv c + 1 ≤ (n + 1) * b := by rw [Nat.add_mul]; omega
      calc m + 1 ≤ (n * b + hv c + 1) * b ^ l.length := this
        _ ≤ ((n + 1) * b) * b ^ l.length := Nat.mul_le_mul_right _ h3
        _ = (n + 1) * (b ^ l.length * b) := by rw [Nat.mul_assoc, Nat.mul_comm b]
    · cases h
theorem fbase_le (k : Nat) : 1 ≤ fbase k ∧ fbase k ≤ 16 := by
  unfold fbase
  split <;> omega
theorem pval_small {l : List UInt8} {v : Nat} (h : pval l = some v) (hl : l.length ≤ 2) : v ≤ 255 := by
  rcases pval_cases l with ⟨h0, _⟩ | ⟨j, n, hj, hf, hp, _⟩
  · rw [h] at h0; cases h0
  · rw [h] at hp
    obtain rfl := Option.some.inj hp
    have hc := (fval_cut hf).2
    have hle := fcut_le l j
    unfold nval at hc
    split at hc
    · cases hc
    · have h1 := nacc_lt hc
      have hb := fbase_le j
      have h2 : fbase j ^ (fcut l j).1.length ≤ 16 ^ 2 := Nat.le_trans (Nat.pow_le_pow_left hb.2 _) (Nat.pow_le_pow_right (by decide) (by omega))
      omega
theorem pval_one {c : UInt8} {v : Nat} (h : pval [c] = some v) : v ≤ 9 := by
  rcases pval_cases [c] with ⟨h0, _⟩ | ⟨j, n, hj, hf, hp, _⟩
  · rw [h] at h0; cases h0
  · rw [h] at hp
    obtain rfl := Option.some.inj hp
    rcases Nat.eq_zero_or_pos j with h0 | h0
    · subst h0
      have hc := (fval_cut hf).2
      have hle := fcut_le [c] 0
      unfold nval at hc
      split at hc
      · cases hc
      · have h1 := nacc_lt hc
        have h2 : fbase 0 ^ (fcut [c] 0).1.length ≤ 10 ^ 1 := Nat.pow_le_pow_right (by decide) (by simpa using hle)
        omega
    · rw [f_one c j h0 hj] at hf
      cases hf
theorem hexU_len2 {n : Nat} (h : n ≤ 255) : (hexU n).length ≤ 2 := by
  by_cases h1 : n < 16
  · rw [hexU_small h1]; simp
  · rw [hexU_big h1, hexU_small (show n / 16 < 16 by omega)]; simp
theorem hexZ_len (n : Nat) : (hexZ n).length ≤ (hexU n).length + 1 := by
  unfold hexZ
  cases hexU n with
  | nil => simp
  | cons c r => dsimp only; split <;> simp
theorem text_len {l : List UInt8} {v : Nat} (h : pval l = some v) (h1 : 1 ≤ l.length) : (textOf (v : Int)).length + 1 ≤ 3 * l.length := by
  have hv2 : v ≤ 65535 := by
    rcases pval_cases l with ⟨h0, _⟩ | ⟨j, n, hj, hf, hp, _⟩
    · rw [h] at h0; cases h0
    · rw [h] at hp
      obtain rfl := Option.some.inj hp
      exact nval_le (fval_cut hf).2
  by_cases h9 : (v : Int) ≤ 9
  · rw [textOf, if_neg (by omega), if_pos h9]
    simp
    omega
  · have hl : l.length ≠ 1 := by
      intro e
      match l, e with
      | [c], _ => have := pval_one h; omega
    rw [textOf, if_neg (by omega), if_neg h9, Int.toNat_natCast, List.length_append]
    have hz := hexZ_len v
    have h4 := hexU_len hv2
    by_cases h2 : l.length = 2
    · have := hexU_len2 (pval_small h (by omega))
      simp
      omega
    · simp
      omega
/-- What is printed of a token is not long. -/
theorem prT_len {l : List UInt8} {k : Nat} {p : Tk × Nat} (h : tok1 l k = .ok p) : (prT p.1).length + 1 ≤ 3 * p.2 ∧ p.1.text.length ≤ p.2 := by
  unfold tok1 at h
  by_cases hw : 0 < wordLen l
  · rw [if_pos hw] at h
    injection h with h
    subst h
    have hp : prT ⟨1, l.take (wordLen l), 0, k⟩ = l.take (wordLen l) := rfl
    rw [hp]
    have := wordLen_le l
    simp only [List.length_take]
    omega
  · rw [if_neg hw] at h
    cases hn : isNum l with
    | true =>
      rw [hn] at h
      simp only [if_true] at h
      cases hv : pval (l.take (1 + runLen (l.drop 1))) with
      | none => rw [hv] at h; cases h
      | some v =>
        rw [hv] at h
        injection h with h
        subst h
        have hp : prT ⟨2, [], v, k⟩ = textOf (v : Int) := rfl
        rw [hp]
        have hr := runLen_le (l.drop 1)
        rw [List.length_drop] at hr
        have hl : 1 ≤ l.length := by
          cases l with
          | nil => cases hn
          | cons c r => simp
        have hlen : (l.take (1 + runLen (l.drop 1))).length = 1 + runLen (l.drop 1) := by rw [List.length_take]; omega
        have := text_len hv (by omega)
        rw [hlen] at this
        exact ⟨this, Nat.zero_le _⟩
    | false =>
      rw [hn] at h
      simp only [Bool.false_eq_true, if_false] at h
      cases l with
      | nil => cases h
      | cons c r =>
        dsimp only at h
        by_cases hm : c = 34 ∨ c = 39
        · rw [if_pos hm] at h
          cases hq : quo c r with
          | none => rw [hq] at h; cases h
          | some y =>
            rw [hq] at h
            injection h with h
            subst h
            have hp : prT ⟨3, y.1, 0, k⟩ = qt 34 y.1 := rfl
            rw [hp]
            have h1 := quo_le c _ r (Nat.le_refl _) y hq
            have h2 := qt_len 34 y.1
            dsimp only
            omega
        · rw [if_neg hm] at h
          by_cases h0 : signLen (c :: r) = 0
          · rw [if_pos h0] at h; cases h
          · rw [if_neg h0] at h
            injection h with h
            subst h
            have hp : prT ⟨4, (c :: r).take (signLen (c :: r)), 0, k⟩ = (c :: r).take (signLen (c :: r)) := rfl
            rw [hp]
            have := signLen_le (c :: r)
            simp only [List.length_take]
            omega
theorem prL_len : ∀ (f : Nat) (l : List UInt8) (k : Nat) (ts : List Tk), toks f l k = .ok ts → (prL ts).length ≤ 3 * l.length ∧ (∀ t ∈ ts, t.text.length ≤ l.length) ∧ (∀ t ∈ ts, t.kind ≤ 4)
  | 0, _, _, _, h => by cases h
  | f + 1, l, k, ts, h => by
    rw [toks_step] at h
    by_cases he : isEnd (l.drop (blankLen l)) = true
    · rw [if_pos he] at h
      injection h with h
      subst h
      rw [prL_end]
      exact ⟨Nat.zero_le _, fun t ht => by rw [List.mem_singleton.1 ht]; exact Nat.zero_le _, fun t ht => by rw [List.mem_singleton.1 ht]; exact Nat.zero_le _⟩
    · rw [if_neg he] at h
      cases ht : tok1 (l.drop (blankLen l)) (k + blankLen l) with
      | error e => rw [ht] at h; cases h
      | ok p =>
        rw [ht] at h
        dsimp only at h
        cases hu : toks f ((l.drop (blankLen l)).drop p.2) (k + blankLen l + p.2) with
        | error e => rw [hu] at h; cases h
        | ok us0 =>
          rw [hu] at h
          injection h with h
          subst h
          have hne := toks_ne hu
          obtain ⟨i1, i2, i3⟩ := prL_len f _ _ us0 hu
          obtain ⟨j1, j2⟩ := prT_len ht
          have hp := tok1_len ht
          have hbl := blankLen_le l
          simp only [List.length_drop] at i1 i2 hp
          rw [prL_cons hne, List.length_append, List.length_cons]
          refine ⟨by omega, fun t ht => ?_, fun t ht' => ?_⟩
          · rcases List.mem_cons.1 ht with rfl | ht
            · omega
            · have := i2 t ht; omega
          · rcases List.mem_cons.1 ht' with rfl | ht'
            · unfold tok1 at ht
              split at ht
              · injection ht with ht; subst ht; exact Nat.le_of_ble_eq_true rfl
              · split at ht
                · split at ht
                  · injection ht with ht; subst ht; exact Nat.le_of_ble_eq_true rfl
                  · cases ht
                · split at ht
                  · cases ht
                  · split at ht
                    · split at ht
                      · injection ht with ht; subst ht; exact Nat.le_of_ble_eq_true rfl
                      · cases ht
                    · split at ht
                      · cases ht
                      · injection ht with ht; subst ht; exact Nat.le_of_ble_eq_true rfl
            · exact i3 t ht'
/-- The printed line has the tokens again. -/
theorem tokens_again {l : List UInt8} {ts : List Tk} (h : tokens l = .ok ts) (hl : l.length ≤ 300) : ∃ us, tokens (prL ts) = .ok us ∧ us.map strip = ts.map strip := by
  unfold tokens at h ⊢
  rw [if_neg (by omega)] at h
  have hlen := (prL_len _ _ _ _ h).1
  rw [if_neg (by omega)]
  exact toks_again _ _ _ _ h _ 0 (by omega)
end Go.Proofs.YtilfbnfejnjaeaaDoor
