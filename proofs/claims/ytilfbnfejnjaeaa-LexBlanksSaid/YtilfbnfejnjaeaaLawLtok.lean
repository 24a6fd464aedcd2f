/- The walks of the statements LexTokens and LexWords. -/
import Derived.Test.YtilfbnfejnjaeaaEqf16
namespace Go.Proofs.Ytilfbnfejnjaeaa
open Go.RowKit

theorem same16_any (A A' : Option Addr) (ts : List Tk) (c c' n : Nat) (w : World) (p p' : Nat → Prop) (hn : ts.length = n) (hm : (n : Int) ≤ 140737488355328) (h : Rd w p A (tcs ts)) (h' : Rd w p' A' (tcs ts)) :
    Calls Try.prog 35 #[.slice A n c, .slice A' n c'] w fun e w' => e = .returned (.bool true) ∧ Below w.heap.size w w' := by
  have C := Lib.hid (eqf_any 62 A A' ts ts c c' n w p p' hn hn hm h h' (.inl rfl) (fun k x y h1 h2 => by
    rw [h1] at h2
    obtain rfl := Option.some.inj h2
    exact same1_agree x))
  clear h h' hn
  go_enter Try.func35, Try.ntmps35
  go_wp2_with (go_at_call 40; refine C.out.mono ?_; rintro e w1 ⟨rfl, hb⟩; have B1 := Lib.hid hb; clear hb)
  go_ret
  exact ⟨rfl, B1.out⟩
/-- What Tokens gives, in one word: a slice of some tokens and a code. -/
def TokW (w : World) (ts : List Tk) (n : Nat) (c : Nat) (e : Ending) (w' : World) : Prop :=
  ∃ A cap, e = .returned (.tuple #[.slice A n cap, .int .i64 (c : Int)]) ∧ Rd w' (fun q => w.heap.size ≤ q) A (tcs ts) ∧ Below w.heap.size w w'
theorem tokW_ok {w : World} {ts : List Tk} {e : Ending} {w' : World} (h : TokPost w (.ok ts) e w') : TokW w ts ts.length 0 e w' := by
  obtain ⟨hb, ⟨c, h, _⟩ | ⟨us, A, cap, h, he, hr⟩⟩ := h
  · cases h
  · injection h with h
    subst h
    exact ⟨A, cap, he, hr, hb⟩
theorem tokW_err {w : World} {c : Nat} {e : Ending} {w' : World} (h : TokPost w (.error c) e w') : TokW w [] 0 c e w' := by
  obtain ⟨hb, ⟨d, h, _, he⟩ | ⟨us, A, cap, h, _⟩⟩ := h
  · injection h with h
    subst h
    exact ⟨none, 0, he, Rd.nil _ _ _, hb⟩
  · cases h
theorem tokens_len {l : List UInt8} {ts : List Tk} (h : tokens l = .ok ts) : ts.length ≤ l.length + 1 := by
  have key : ∀ (f : Nat) (l : List UInt8) (k : Nat) (ts : List Tk), toks f l k = .ok ts → ts.length ≤ f := by
    intro f
    induction f with
    | zero => intro l k ts h; cases h
    | succ f ih =>
      intro l k ts h
      rw [toks_step] at h
      split at h
      · injection h with h; subst h; simp
      · cases ht : tok1 (l.drop (blankLen l)) (k + blankLen l) with
        | error e => rw [ht] at h; cases h
        | ok p =>
          rw [ht] at h
          dsimp only at h
          cases hu : toks f ((l.drop (blankLen l)).drop p.2) (k + blankLen l + p.2) with
          | error e => rw [hu] at h; cases h
          | ok us =>
            rw [hu] at h
            injection h with h
            subst h
            have := ih _ _ _ hu
            rw [List.length_cons]
            omega
  unfold tokens at h
  split at h
  · cases h
  · exact key _ _ _ _ h
set_option maxHeartbeats 1000000 in
theorem ltok_case (s : ByteArray) (w : World) (hs : (s.size : Int) ≤ 2000) (ts : List Tk) (n c : Nat) (hn : ts.length = n) (hm : (n : Int) ≤ 140737488355328)
    (h1 : ∀ W : World, Calls Try.prog 32 #[.string s] W (TokW W ts n c)) (h2 : ∀ W : World, Calls Try.prog 34 #[.string s] W (TokW W ts n c)) :
    Calls Try.prog 10 #[.string s] w fun e w' => e = .returned (.bool true) ∧ Below w.heap.size w w' := by
  have C1 := Lib.hid h1
  have C2 := Lib.hid h2
  have C3 : Hid (∀ W : World, Calls Try.prog 30 #[] W fun e w' => e = .returned (.bool true) ∧ Below W.heap.size W w') := fun W => alive16_any W
  have C4 : Hid (∀ (W : World) (A A' : Option Addr) cap cap' p p', Rd W p A (tcs ts) → Rd W p' A' (tcs ts) → Calls Try.prog 35 #[.slice A n cap, .slice A' n cap'] W fun e w' => e = .returned (.bool true) ∧ Below W.heap.size W w') := fun W A A' cap cap' p p' h h' => same16_any A A' ts cap cap' n W p p' hn hm h h'
  have d1 : ((c : Int) == (c : Int)) = true := beq_self_eq_true _
  clear h1 h2 hn
  go_enter Try.func10, Try.ntmps10
  go_wp2_with (first
    | (go_at_call 32; refine (C1.out _).mono ?_; rintro e w1 ⟨A1, c1, rfl, hr, hb⟩; have R1 := Lib.hid hr; have B1 := Lib.hid hb; clear hr hb)
    | (go_at_call 34; refine (C2.out _).mono ?_; rintro e w2 ⟨A2, c2, rfl, hr, hb⟩; have R2 := Lib.hid hr; have R1' := Lib.hid (R1.out.after hb); have B2 := Lib.hid (B1.out.trans (hb.mono B1.out.size)); clear hr hb)
    | (go_at_call 30; refine (C3.out _).mono ?_; rintro e w3 ⟨rfl, hb⟩; have R1'' := Lib.hid (R1'.out.after hb); have R2'' := Lib.hid (R2.out.after hb); have B3 := Lib.hid (B2.out.trans (hb.mono B2.out.size)); clear hb)
    | (go_at_call 35; refine (C4.out _ _ _ _ _ _ _ R1''.out R2''.out).mono ?_; rintro e w4 ⟨rfl, hb⟩; have B4 := Lib.hid (B3.out.trans (hb.mono B3.out.size)); clear hb))
  go_ret
  exact ⟨rfl, B4.out⟩
theorem ltok_long (s : ByteArray) (w : World) (h : 2000 < (s.size : Int)) :
    Calls Try.prog 10 #[.string s] w fun e w' => e = .returned (.bool true) ∧ Below w.heap.size w w' := by
  have C3 := Lib.hid (alive16_any w)
  go_enter Try.func10, Try.ntmps10
  go_wp2_with (go_at_call 30; refine C3.out.mono ?_; rintro e w3 ⟨rfl, hb⟩; have B3 := Lib.hid hb; clear hb)
  go_ret
  exact ⟨rfl, B3.out⟩
theorem ltok_law (s : ByteArray) (w : World) : Calls Try.prog 10 #[.string s] w fun e w' => e = .returned (.bool true) ∧ Below w.heap.size w w' := by
  by_cases h : 2000 < (s.size : Int)
  · exact ltok_long s w h
  · cases ht : tokens s.data.toList with
    | ok ts =>
      have hl := tokens_len ht
      rw [str_len] at hl
      refine ltok_case s w (by omega) ts ts.length 0 rfl (by omega) (fun W => (tokens_any s W (by omega)).mono fun e w' h => ?_) (fun W => (rtokens_any s W (by omega)).mono fun e w' h => ?_)
      · rw [ht] at h; exact tokW_ok h
      · rw [ht] at h; exact tokW_ok h
    | error c =>
      refine ltok_case s w (by omega) [] 0 c rfl (by decide) (fun W => (tokens_any s W (by omega)).mono fun e w' h => ?_) (fun W => (rtokens_any s W (by omega)).mono fun e w' h => ?_)
      · rw [ht] at h; exact tokW_err h
      · rw [ht] at h; exact tokW_err h
end Go.Proofs.Ytilfbnfejnjaeaa
