/- The walk of the statement LexBlanks. -/
import Derived.Test.YtilfbnfejnjaeaaLawLtok
import Derived.Test.YtilfbnfejnjaeaaLblank
namespace Go.Proofs.Ytilfbnfejnjaeaa
open Go.RowKit

theorem rep_bl : ∀ k : Nat, (∀ c ∈ Lib.repeatL [32, 9] k, isBl c = true) ∧ (Lib.repeatL [32, 9] k).length = 2 * k
  | 0 => ⟨fun c hc => (by cases hc), rfl⟩
  | k + 1 => by
    obtain ⟨h1, h2⟩ := rep_bl k
    refine ⟨fun c hc => ?_, ?_⟩
    · rw [Lib.repeatL] at hc
      rcases List.mem_append.1 hc with hc | hc
      · simp at hc
        rcases hc with rfl | rfl <;> rfl
      · exact h1 c hc
    · rw [Lib.repeatL, List.length_append, h2]
      simp
      omega
theorem ib_mem {l : List UInt8} {c : UInt8} (h : Lib.indexByte l c < 0) : ∀ d ∈ l, d ≠ c := by
  intro d hd e
  subst e
  obtain ⟨k, hk⟩ := List.getElem?_of_mem hd
  rcases Int.lt_or_le (Lib.indexByte l d) (-1) with h' | h'
  · have := Lib.indexByte_ge l d
    omega
  · exact Lib.indexByte_none (show Lib.indexByte l d = -1 by omega) k hk
theorem lblanks_long (s t : ByteArray) (y : Int) (w : World) (h : 300 < (s.size : Int) ∨ ((s.size : Int) ≤ 300 ∧ 300 < (t.size : Int))) :
    Calls Try.prog 12 #[.string s, .string t, .int .u8 y] w fun e w' => e = .returned (.bool true) ∧ Below w.heap.size w w' := by
  have C3 := Lib.hid (alive16_any w)
  rcases h with h | ⟨h, h'⟩
  all_goals
    go_enter Try.func12, Try.ntmps12
    go_wp2_with (go_at_call 30; refine C3.out.mono ?_; rintro e w3 ⟨rfl, hb⟩; have B3 := Lib.hid hb; clear hb)
    go_ret
    exact ⟨rfl, B3.out⟩
set_option maxHeartbeats 4000000 in
theorem lblanks_case (s t : ByteArray) (y : Int) (w : World) (hs : (s.size : Int) ≤ 300) (ht : (t.size : Int) ≤ 300) (k : Nat) (hk : y % 5 = (k : Int)) (hk4 : (k : Int) ≤ 4) (hy0 : 0 ≤ y) (hy1 : y ≤ 255)
    (P X : ByteArray) (hP : (⟨(Lib.repeatL [32, 9] k).toArray⟩ : ByteArray) = P) (hX : P ++ s ++ ⟨#[32, 9, 59]⟩ ++ t = X) (ts us : List Tk) (n c n' c' : Nat) (hn : ts.length = n) (hn' : us.length = n') (hm : (n : Int) ≤ 140737488355328)
    (h1 : ∀ W : World, Calls Try.prog 34 #[.string s] W (TokW W ts n c)) (h2 : ∀ W : World, Calls Try.prog 32 #[.string X] W (TokW W us n' c'))
    (i j : Int) (hi : Lib.indexByte s.data.toList 39 = i) (hj : Lib.indexByte s.data.toList 34 = j)
    (hcase : (c = 0 ∧ c' = 0 ∧ n' = n ∧ us.map strip = ts.map strip) ∨ (1 ≤ c ∧ 1 ≤ c') ∨ (1 ≤ c ∧ c' = 0 ∧ 0 ≤ i) ∨ (1 ≤ c ∧ c' = 0 ∧ i < 0 ∧ 0 ≤ j)) :
    Calls Try.prog 12 #[.string s, .string t, .int .u8 y] w fun e w' => e = .returned (.bool true) ∧ Below w.heap.size w w' := by
  have hPs : P.size = 2 * k := by rw [← str_len, ← hP]; exact (rep_bl k).2
  have hPi : (P.size : Int) ≤ 8 := by omega
  have hA1 : (P ++ s : ByteArray).size = P.size + s.size := ByteArray.size_append
  have hA2 : (P ++ s ++ ⟨#[32, 9, 59]⟩ : ByteArray).size = P.size + s.size + 3 := by rw [ByteArray.size_append, hA1]; rfl
  have hA1i : ((P ++ s : ByteArray).size : Int) ≤ 308 := by omega
  have hA2i : ((P ++ s ++ ⟨#[32, 9, 59]⟩ : ByteArray).size : Int) ≤ 311 := by omega
  have C1 := Lib.hid h1
  have C2 := Lib.hid h2
  have CP : Hid (∀ W : World, Calls Try.prog 38 #[.string ⟨#[32, 9]⟩, .int .i64 (k : Int)] W fun e w' => e = .returned (.string P) ∧ Below W.heap.size W w') := fun W => by
    have := Try.strings_Repeat ⟨#[32, 9]⟩ k W (by omega) (by rw [show ((⟨#[32, 9]⟩ : ByteArray).size) = 2 from rfl]; omega)
    rw [← hP]
    exact this
  have C3 : Hid (∀ W : World, Calls Try.prog 30 #[] W fun e w' => e = .returned (.bool true) ∧ Below W.heap.size W w') := fun W => alive16_any W
  have CI : Hid (∀ W : World, Calls Try.prog 39 #[.string s, .string ⟨#[39]⟩] W fun e w' => e = .returned (.bool (decide (0 ≤ i))) ∧ w' = W) := fun W => by
    have := Try.strings_Contains_one s 39 W
    rw [hi] at this
    exact this
  have CJ : Hid (∀ W : World, Calls Try.prog 39 #[.string s, .string ⟨#[34]⟩] W fun e w' => e = .returned (.bool (decide (0 ≤ j))) ∧ w' = W) := fun W => by
    have := Try.strings_Contains_one s 34 W
    rw [hj] at this
    exact this
  have HN := Lib.hid hn
  have HN' := Lib.hid hn'
  clear h1 h2 hi hj hP hPs hA1 hA2 hn hn'
  rcases hcase with ⟨rfl, rfl, rfl, hst⟩ | hcase
  · have C4 : Hid (∀ (W : World) (A A' : Option Addr) cap cap' p p', Rd W p A (tcs us) → Rd W p' A' (tcs ts) → Calls Try.prog 40 #[.slice A n' cap, .slice A' n' cap', .func (.func 41) #[] #[]] W fun e w' => e = .returned (.bool true) ∧ Below W.heap.size W w') := fun W A A' cap cap' p p' h h' =>
      eqf_any 41 A A' us ts cap cap' n' W p p' HN'.out HN.out hm h h' (.inr rfl) (fun k x y h1 h2 => by
        refine blanks1_agree x y ?_
        have e : (us.map strip)[k]? = (ts.map strip)[k]? := by rw [hst]
        rw [List.getElem?_map, List.getElem?_map, h1, h2] at e
        have e2 : strip x = strip y := Option.some.inj e
        unfold strip at e2
        injection e2 with a1 a2
        injection a2 with a2 a3
        exact ⟨a1, a2, a3⟩)
    clear hst
    go_enter Try.func12, Try.ntmps12
    go_wp2_with (first
      | (go_at_call 34; refine (C1.out _).mono ?_; rintro e w1 ⟨A1, c1, rfl, hr, hb⟩; have R1 := Lib.hid hr; have B1 := Lib.hid hb; clear hr hb)
      | (go_at_call 38; refine (CP.out _).mono ?_; rintro e w2 ⟨rfl, hb⟩; have R2 := Lib.hid (R1.out.after hb); have B2 := Lib.hid (B1.out.trans (hb.mono B1.out.size)); clear hb)
      | (go_at_call 32; refine (C2.out _).mono ?_; rintro e w3 ⟨A2, c2, rfl, hr, hb⟩; have Q3 := Lib.hid hr; have R3 := Lib.hid (R2.out.after hb); have B3 := Lib.hid (B2.out.trans (hb.mono B2.out.size)); clear hr hb)
      | (go_at_call 30; refine (C3.out _).mono ?_; rintro e w4 ⟨rfl, hb⟩; have R4 := Lib.hid (R3.out.after hb); have Q4 := Lib.hid (Q3.out.after hb); have B4 := Lib.hid (B3.out.trans (hb.mono B3.out.size)); clear hb)
      | (go_at_call 40; refine (C4.out _ _ _ _ _ _ _ Q4.out R4.out).mono ?_; rintro e w5 ⟨rfl, hb⟩; have B5 := Lib.hid (B4.out.trans (hb.mono B4.out.size)); clear hb))
    go_ret
    exact ⟨rfl, B5.out⟩
  · rcases hcase with ⟨h3, h4⟩ | ⟨h3, rfl, h4⟩ | ⟨h3, rfl, h4, h5⟩
    · have d1 : ((c : Int) != 0) = true := bne_iff_ne.2 (by omega)
      have d2 : ((c' : Int) != 0) = true := bne_iff_ne.2 (by omega)
      go_enter Try.func12, Try.ntmps12
      go_wp2_with (first
        | (go_at_call 34; refine (C1.out _).mono ?_; rintro e w1 ⟨A1, c1, rfl, hr, hb⟩; have B1 := Lib.hid hb; clear hr hb)
        | (go_at_call 38; refine (CP.out _).mono ?_; rintro e w2 ⟨rfl, hb⟩; have B2 := Lib.hid (B1.out.trans (hb.mono B1.out.size)); clear hb)
        | (go_at_call 32; refine (C2.out _).mono ?_; rintro e w3 ⟨A2, c2, rfl, hr, hb⟩; have B3 := Lib.hid (B2.out.trans (hb.mono B2.out.size)); clear hr hb)
        | (go_at_call 30; refine (C3.out _).mono ?_; rintro e w4 ⟨rfl, hb⟩; have B4 := Lib.hid (B3.out.trans (hb.mono B3.out.size)); clear hb))
      go_ret
      exact ⟨rfl, B4.out⟩
    · have d1 : ((c : Int) != 0) = true := bne_iff_ne.2 (by omega)
      have d3 : decide (0 ≤ i) = true := decide_eq_true h4
      rw [d3] at CI
      clear d3
      go_enter Try.func12, Try.ntmps12
      go_wp2_with (first
        | (go_at_call 34; refine (C1.out _).mono ?_; rintro e w1 ⟨A1, c1, rfl, hr, hb⟩; have B1 := Lib.hid hb; clear hr hb)
        | (go_at_call 38; refine (CP.out _).mono ?_; rintro e w2 ⟨rfl, hb⟩; have B2 := Lib.hid (B1.out.trans (hb.mono B1.out.size)); clear hb)
        | (go_at_call 32; refine (C2.out _).mono ?_; rintro e w3 ⟨A2, c2, rfl, hr, hb⟩; have B3 := Lib.hid (B2.out.trans (hb.mono B2.out.size)); clear hr hb)
        | (go_at_call 30; refine (C3.out _).mono ?_; rintro e w4 ⟨rfl, hb⟩; have B4 := Lib.hid (B3.out.trans (hb.mono B3.out.size)); clear hb)
        | (go_at_call 39; refine (CI.out _).mono ?_; rintro e w5 ⟨rfl, rfl⟩))
      go_ret
      exact ⟨rfl, B4.out⟩
    · have d1 : ((c : Int) != 0) = true := bne_iff_ne.2 (by omega)
      have d3 : decide (0 ≤ i) = false := decide_eq_false (by omega)
      have d4 : decide (0 ≤ j) = true := decide_eq_true h5
      rw [d3] at CI
      rw [d4] at CJ
      clear d3 d4
      go_enter Try.func12, Try.ntmps12
      go_wp2_with (first
        | (go_at_call 34; refine (C1.out _).mono ?_; rintro e w1 ⟨A1, c1, rfl, hr, hb⟩; have B1 := Lib.hid hb; clear hr hb)
        | (go_at_call 38; refine (CP.out _).mono ?_; rintro e w2 ⟨rfl, hb⟩; have B2 := Lib.hid (B1.out.trans (hb.mono B1.out.size)); clear hb)
        | (go_at_call 32; refine (C2.out _).mono ?_; rintro e w3 ⟨A2, c2, rfl, hr, hb⟩; have B3 := Lib.hid (B2.out.trans (hb.mono B2.out.size)); clear hr hb)
        | (go_at_call 30; refine (C3.out _).mono ?_; rintro e w4 ⟨rfl, hb⟩; have B4 := Lib.hid (B3.out.trans (hb.mono B3.out.size)); clear hb)
        | (go_at_call 39; (with_reducible refine (CI.out _).mono ?_); rintro e w5 ⟨rfl, rfl⟩)
        | (go_at_call 39; refine (CJ.out _).mono ?_; rintro e w5 ⟨rfl, rfl⟩))
      go_ret
      exact ⟨rfl, B4.out⟩
theorem toks_code : ∀ (f : Nat) (l : List UInt8) (k e : Nat), toks f l k = .error e → 1 ≤ e
  | 0, _, _, e, h => by injection h with h; omega
  | f + 1, l, k, e, h => by
    rw [toks_step] at h
    split at h
    · cases h
    · cases ht : tok1 (l.drop (blankLen l)) (k + blankLen l) with
      | error e0 =>
        rw [ht] at h
        injection h with h
        subst h
        unfold tok1 at ht
        split at ht
        · cases ht
        · split at ht
          · split at ht
            · cases ht
            · injection ht with ht; omega
          · split at ht
            · injection ht with ht; omega
            · split at ht
              · split at ht
                · cases ht
                · injection ht with ht; omega
              · split at ht
                · injection ht with ht; omega
                · cases ht
      | ok p =>
        rw [ht] at h
        dsimp only at h
        cases hu : toks f ((l.drop (blankLen l)).drop p.2) (k + blankLen l + p.2) with
        | error e0 =>
          rw [hu] at h
          injection h with h
          subst h
          exact toks_code f _ _ _ hu
        | ok us => rw [hu] at h; cases h
theorem tokens_code {l : List UInt8} {e : Nat} (h : tokens l = .error e) : 1 ≤ e := by
  unfold tokens at h
  split at h
  · injection h with h; omega
  · exact toks_code _ _ _ _ h
def tokL : Except Nat (List Tk) → List Tk
  | .ok ts => ts
  | .error _ => []
def tokC : Except Nat (List Tk) → Nat
  | .ok _ => 0
  | .error c => c
theorem tokW_any {w : World} {r : Except Nat (List Tk)} {e : Ending} {w' : World} (h : TokPost w r e w') : TokW w (tokL r) (tokL r).length (tokC r) e w' := by
  cases r with
  | ok ts => exact tokW_ok h
  | error c => exact tokW_err h
theorem lblanks_law (s t : ByteArray) (y : Int) (w : World) (hy0 : 0 ≤ y) (hy1 : y ≤ 255) : Calls Try.prog 12 #[.string s, .string t, .int .u8 y] w fun e w' => e = .returned (.bool true) ∧ Below w.heap.size w w' := by
  by_cases h1 : 300 < (s.size : Int)
  · exact lblanks_long s t y w (.inl h1)
  · by_cases h2 : 300 < (t.size : Int)
    · exact lblanks_long s t y w (.inr ⟨by omega, h2⟩)
    · obtain ⟨k, hk⟩ : ∃ k : Nat, y % 5 = (k : Int) := ⟨(y % 5).toNat, by omega⟩
      have hk4 : (k : Int) ≤ 4 := by omega
      obtain ⟨hb1, hb2⟩ := rep_bl k
      obtain ⟨X, hX⟩ : ∃ X : ByteArray, (⟨(Lib.repeatL [32, 9] k).toArray⟩ : ByteArray) ++ s ++ ⟨#[32, 9, 59]⟩ ++ t = X := ⟨_, rfl⟩
      have hXl : X.data.toList = Lib.repeatL [32, 9] k ++ (s.data.toList ++ tailOf t.data.toList) := by
        rw [← hX]
        simp [ByteArray.data_append, tailOf]
      have hXs : X.size ≤ 1024 := by
        rw [← str_len, hXl]
        simp only [List.length_append, hb2, tailOf, List.length_cons, str_len]
        omega
      have hsl := str_len s
      obtain ⟨a1, a2⟩ := tokens_around (pre := Lib.repeatL [32, 9] k) (l := s.data.toList) (cmt := t.data.toList) hb1 (by omega) (by rw [← hXl, str_len]; exact hXs)
      rw [← hXl] at a1 a2
      have T1 : ∀ W : World, Calls Try.prog 34 #[.string s] W (TokW W (tokL (tokens s.data.toList)) (tokL (tokens s.data.toList)).length (tokC (tokens s.data.toList))) := fun W => (rtokens_any s W (by omega)).mono fun e w' h => tokW_any h
      have T2 : ∀ W : World, Calls Try.prog 32 #[.string X] W (TokW W (tokL (tokens X.data.toList)) (tokL (tokens X.data.toList)).length (tokC (tokens X.data.toList))) := fun W => (tokens_any X W (by omega)).mono fun e w' h => tokW_any h
      cases ht : tokens s.data.toList with
      | ok ts =>
        obtain ⟨us, hus, hst⟩ := a1 ts ht
        rw [ht] at T1
        rw [hus] at T2
        have hlen := congrArg List.length hst
        rw [List.length_map, List.length_map] at hlen
        have hl := tokens_len ht
        exact lblanks_case s t y w (by omega) (by omega) k hk hk4 hy0 hy1 _ X rfl hX ts us ts.length 0 us.length 0 rfl rfl (by omega) T1 T2 _ _ rfl rfl (.inl ⟨rfl, rfl, hlen, hst⟩)
      | error e =>
        have he := tokens_code ht
        rw [ht] at T1
        cases hu : tokens X.data.toList with
        | error e' =>
          rw [hu] at T2
          exact lblanks_case s t y w (by omega) (by omega) k hk hk4 hy0 hy1 _ X rfl hX [] [] 0 e 0 e' rfl rfl (by decide) T1 T2 _ _ rfl rfl (.inr (.inl ⟨he, tokens_code hu⟩))
        | ok us =>
          rw [hu] at T2
          refine lblanks_case s t y w (by omega) (by omega) k hk hk4 hy0 hy1 _ X rfl hX [] us 0 e us.length 0 rfl rfl (by decide) T1 T2 _ _ rfl rfl ?_
          rcases Int.lt_or_le (Lib.indexByte s.data.toList 39) 0 with h39 | h39
          · rcases Int.lt_or_le (Lib.indexByte s.data.toList 34) 0 with h34 | h34
            · have := a2 e ht (fun c hc => ⟨ib_mem h34 c hc, ib_mem h39 c hc⟩)
              rw [hu] at this
              cases this
            · exact .inr (.inr (.inr ⟨he, rfl, h39, h34⟩))
          · exact .inr (.inr (.inl ⟨he, rfl, h39⟩))
end Go.Proofs.Ytilfbnfejnjaeaa
