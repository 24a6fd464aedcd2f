/- The walk of the statement LexWords. -/
import Derived.Test.YtilfbnfejnjaeaaLawLtok
namespace Go.Proofs.Ytilfbnfejnjaeaa
open Go.RowKit

theorem wordLen_first {l : List UInt8} (h : 0 < wordLen l) : ∃ c r, l = c :: r ∧ isL c = true := by
  cases l with
  | nil => simp [wordLen] at h
  | cons c r =>
    refine ⟨c, r, rfl, ?_⟩
    rw [wordLen_cons] at h
    by_cases hc : isL c = true
    · exact hc
    · rw [if_neg hc] at h
      omega
theorem isL_facts : ∀ n : Fin 256, isL (UInt8.ofNat n.val) = true → isBl (UInt8.ofNat n.val) = false ∧ (UInt8.ofNat n.val == 59) = false := by decide +kernel
theorem isL_not {c : UInt8} (h : isL c = true) : isBl c = false ∧ (c == 59) = false := by
  have := isL_facts ⟨c.toNat, c.toNat_lt⟩
  rw [show UInt8.ofNat (⟨c.toNat, c.toNat_lt⟩ : Fin 256).val = c from by simp] at this
  exact this h
theorem word_toks {l : List UInt8} (h : isWd l = true) (hs : l.length ≤ 1024) : tokens l = .ok [⟨1, l, 0, 0⟩, ⟨0, [], 0, l.length⟩] := by
  unfold isWd at h
  simp only [Bool.and_eq_true, decide_eq_true_eq] at h
  obtain ⟨h0, h1⟩ := h
  obtain ⟨c, r, hl, hc⟩ := wordLen_first h0
  obtain ⟨hb, he⟩ := isL_not hc
  have hbl : blankLen l = 0 := by rw [hl, blankLen, hb]; rfl
  have hend : isEnd l = false := by rw [hl]; exact he
  unfold tokens
  rw [if_neg (by omega), toks_step, hbl, List.drop_zero, hend, tok1_word h0, h1]
  simp only [Bool.false_eq_true, if_false]
  rw [List.drop_eq_nil_of_le (Nat.le_refl _), List.take_of_length_le (Nat.le_refl _)]
  have hlen : l.length = r.length + 1 := by rw [hl]; rfl
  rw [hlen, toks_step]
  show (Except.ok _ : Except Nat (List Tk)) = _
  simp [blankLen]
theorem tok1_kind {l : List UInt8} {k : Nat} {p : Tk × Nat} (h : tok1 l k = .ok p) (h1 : p.1.kind = 1) : 0 < wordLen l ∧ p = (⟨1, l.take (wordLen l), 0, k⟩, wordLen l) := by
  rcases Nat.eq_zero_or_pos (wordLen l) with h0 | h0
  · exfalso
    unfold tok1 at h
    rw [if_neg (by omega)] at h
    split at h
    · split at h
      · injection h with h; subst h; cases h1
      · cases h
    · cases l with
      | nil => cases h
      | cons c r =>
        dsimp only at h
        split at h
        · split at h
          · injection h with h; subst h; cases h1
          · cases h
        · split at h
          · cases h
          · injection h with h; subst h; cases h1
  · rw [tok1_word h0] at h
    injection h with h
    exact ⟨h0, h.symm⟩
/-- A first token that is the text as a whole, as a word: the text is a word. -/
theorem toks_word {l : List UInt8} {ts : List Tk} {t : Tk} (h : tokens l = .ok ts) (h0 : ts[0]? = some t) (h1 : t.kind = 1) (h2 : t.text = l) : isWd l = true := by
  unfold tokens at h
  split at h
  · cases h
  · rw [toks_step] at h
    split at h
    · injection h with h
      subst h
      have : t = ⟨0, [], 0, 0 + blankLen l⟩ := (Option.some.inj h0).symm
      rw [this] at h1
      cases h1
    · cases ht : tok1 (l.drop (blankLen l)) (0 + blankLen l) with
      | error e => rw [ht] at h; cases h
      | ok p =>
        rw [ht] at h
        dsimp only at h
        cases hu : toks l.length ((l.drop (blankLen l)).drop p.2) (0 + blankLen l + p.2) with
        | error e => rw [hu] at h; cases h
        | ok us =>
          rw [hu] at h
          injection h with h
          subst h
          have : p.1 = t := Option.some.inj h0
          rw [← this] at h1 h2
          obtain ⟨hw, hp⟩ := tok1_kind ht h1
          rw [hp] at h2
          have hlen := congrArg List.length h2
          simp only [List.length_take, List.length_drop] at hlen
          have hle := wordLen_le (l.drop (blankLen l))
          rw [List.length_drop] at hle
          have hb : blankLen l = 0 := by omega
          rw [hb, List.drop_zero] at hw hlen hle
          unfold isWd
          rw [decide_eq_true hw, decide_eq_true (by omega)]
          rfl
set_option maxHeartbeats 1000000 in
theorem lwords_case (s : ByteArray) (w : World) (hs : (s.size : Int) ≤ 300) (ts : List Tk) (n c : Nat) (ok : Bool) (hok : isWd s.data.toList = ok)
    (h1 : ∀ W : World, Calls Try.prog 32 #[.string s] W (TokW W ts n c))
    (hcase : (((n : Int) == 2) = false ∧ ok = false) ∨ (((n : Int) == 2) = true ∧ 2 ≤ (n : Int) ∧ ∃ t, ts[0]? = some t ∧ ((((t.kind : Int) == 1) = false ∧ ok = false) ∨ (((t.kind : Int) == 1) = true ∧ ((⟨t.text.toArray⟩ : ByteArray).toList == s.toList) = ok)))) :
    Calls Try.prog 9 #[.string s] w fun e w' => e = .returned (.bool true) ∧ Below w.heap.size w w' := by
  have C0 : Hid (∀ W : World, Calls Try.prog 31 #[.string s] W fun e w' => e = .returned (.bool ok) ∧ Below W.heap.size W w') := fun W => by
    have := isword_any s W (by omega)
    rw [hok] at this
    exact this
  have C5 : Hid (∀ W : World, Calls Try.prog 33 #[.string s] W fun e w' => e = .returned (.bool ok) ∧ Below W.heap.size W w') := fun W => by
    have := risword_any s W (by omega)
    rw [hok] at this
    exact this
  have C1 := Lib.hid h1
  have C3 : Hid (∀ W : World, Calls Try.prog 30 #[] W fun e w' => e = .returned (.bool true) ∧ Below W.heap.size W w') := fun W => alive16_any W
  have d1 : (ok == ok) = true := beq_self_eq_true _
  clear h1 hok
  rcases hcase with ⟨e1, rfl⟩ | ⟨e1, h2n, t, ht, hcase⟩
  · go_enter Try.func9, Try.ntmps9
    go_wp2_with (first
      | (go_at_call 31; refine (C0.out _).mono ?_; rintro e w0 ⟨rfl, hb⟩; have B0 := Lib.hid hb; clear hb)
      | (go_at_call 32; refine (C1.out _).mono ?_; rintro e w1 ⟨A1, c1, rfl, hr, hb⟩; have B1 := Lib.hid (B0.out.trans (hb.mono B0.out.size)); clear hr hb)
      | (go_at_call 30; refine (C3.out _).mono ?_; rintro e w3 ⟨rfl, hb⟩; have B3 := Lib.hid (B1.out.trans (hb.mono B1.out.size)); clear hb)
      | (go_at_call 33; refine (C5.out _).mono ?_; rintro e w4 ⟨rfl, hb⟩; have B4 := Lib.hid (B3.out.trans (hb.mono B3.out.size)); clear hb))
    go_ret
    exact ⟨rfl, B4.out⟩
  · have HT := Lib.hid ht
    have CR : Hid (∀ (W : World) A p, Rd W p A (tcs ts) → ∃ b o, A = some ⟨b, o, none⟩ ∧ W.cell? ⟨b, o, none⟩ = some (.int .i64 (t.kind : Int)) ∧ W.cell? ⟨b, o + 1, none⟩ = some (.string ⟨t.text.toArray⟩)) := fun W A p h => by
      obtain ⟨b, o, hA, c0, c1, _⟩ := h.tok ht
      rw [Nat.zero_mul, Nat.add_zero] at c0 c1
      exact ⟨b, o, hA, c0, c1⟩
    obtain ⟨S, hS⟩ : ∃ S : ByteArray, (⟨t.text.toArray⟩ : ByteArray) = S := ⟨_, rfl⟩
    rw [hS] at CR hcase
    clear ht hS
    rcases hcase with ⟨e2, rfl⟩ | ⟨e2, e3⟩
    · go_enter Try.func9, Try.ntmps9
      go_wp2_with (first
        | (go_at_call 31; refine (C0.out _).mono ?_; rintro e w0 ⟨rfl, hb⟩; have B0 := Lib.hid hb; clear hb)
        | (go_at_call 32; refine (C1.out _).mono ?_; rintro e w1 ⟨A1, c1, rfl, hr, hb⟩; have B1 := Lib.hid (B0.out.trans (hb.mono B0.out.size)); obtain ⟨b, o, rfl, k0, k1⟩ := CR.out _ _ _ hr; clear hr hb)
        | (go_at_call 30; refine (C3.out _).mono ?_; rintro e w3 ⟨rfl, hb⟩; have B3 := Lib.hid (B1.out.trans (hb.mono B1.out.size)); clear hb)
        | (go_at_call 33; refine (C5.out _).mono ?_; rintro e w4 ⟨rfl, hb⟩; have B4 := Lib.hid (B3.out.trans (hb.mono B3.out.size)); clear hb))
      go_ret
      exact ⟨rfl, B4.out⟩
    · cases ok
      all_goals
        go_enter Try.func9, Try.ntmps9
        go_wp2_with (first
          | (go_at_call 31; refine (C0.out _).mono ?_; rintro e w0 ⟨rfl, hb⟩; have B0 := Lib.hid hb; clear hb)
          | (go_at_call 32; refine (C1.out _).mono ?_; rintro e w1 ⟨A1, c1, rfl, hr, hb⟩; have B1 := Lib.hid (B0.out.trans (hb.mono B0.out.size)); obtain ⟨b, o, rfl, k0, k1⟩ := CR.out _ _ _ hr; clear hr hb)
          | (go_at_call 30; refine (C3.out _).mono ?_; rintro e w3 ⟨rfl, hb⟩; have B3 := Lib.hid (B1.out.trans (hb.mono B1.out.size)); clear hb)
          | (go_at_call 33; refine (C5.out _).mono ?_; rintro e w4 ⟨rfl, hb⟩; have B4 := Lib.hid (B3.out.trans (hb.mono B3.out.size)); clear hb))
        go_ret
        exact ⟨rfl, B4.out⟩
theorem lwords_long (s : ByteArray) (w : World) (h : 300 < (s.size : Int)) :
    Calls Try.prog 9 #[.string s] w fun e w' => e = .returned (.bool true) ∧ Below w.heap.size w w' := by
  have C3 := Lib.hid (alive16_any w)
  go_enter Try.func9, Try.ntmps9
  go_wp2_with (go_at_call 30; refine C3.out.mono ?_; rintro e w3 ⟨rfl, hb⟩; have B3 := Lib.hid hb; clear hb)
  go_ret
  exact ⟨rfl, B3.out⟩
theorem lwords_law (s : ByteArray) (w : World) : Calls Try.prog 9 #[.string s] w fun e w' => e = .returned (.bool true) ∧ Below w.heap.size w w' := by
  by_cases h : 300 < (s.size : Int)
  · exact lwords_long s w h
  · have hlen := str_len s
    cases ht : tokens s.data.toList with
    | ok ts =>
      refine lwords_case s w (by omega) ts ts.length 0 _ rfl (fun W => (tokens_any s W (by omega)).mono fun e w' h => by rw [ht] at h; exact tokW_ok h) ?_
      cases hw : isWd s.data.toList with
      | true =>
        have := word_toks hw (by omega)
        rw [ht] at this
        injection this with this
        subst this
        exact .inr ⟨rfl, Int.le_refl 2, _, rfl, .inr ⟨rfl, beq_self_eq_true _⟩⟩
      | false =>
        by_cases h2 : ts.length = 2
        · refine .inr ⟨by rw [h2]; rfl, by omega, ts[0], List.getElem?_eq_getElem (by omega), ?_⟩
          by_cases hk : ts[0].kind = 1
          · refine .inr ⟨by rw [hk]; rfl, ?_⟩
            rw [ByteArray.toList_eq, ByteArray.toList_eq]
            apply beq_eq_false_iff_ne.2
            intro e
            have := toks_word ht (List.getElem?_eq_getElem (by omega)) hk e
            rw [hw] at this
            cases this
          · exact .inl ⟨beq_eq_false_iff_ne.2 (by omega), rfl⟩
        · exact .inl ⟨beq_eq_false_iff_ne.2 (by omega), rfl⟩
    | error c =>
      refine lwords_case s w (by omega) [] 0 c _ rfl (fun W => (tokens_any s W (by omega)).mono fun e w' h => by rw [ht] at h; exact tokW_err h) (.inl ⟨rfl, ?_⟩)
      cases hw : isWd s.data.toList with
      | true =>
        have := word_toks hw (by omega)
        rw [ht] at this
        cases this
      | false => rfl
end Go.Proofs.Ytilfbnfejnjaeaa
