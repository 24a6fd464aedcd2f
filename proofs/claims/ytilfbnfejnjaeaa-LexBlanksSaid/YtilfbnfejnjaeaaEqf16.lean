/- The walks of EqualFunc over tokens of the package lex and of its reference that agree, of same, and of the statements LexTokens and LexWords. -/
import Derived.Test.YtilfbnfejnjaeaaAlive16
import Derived.Test.YtilfbnfejnjaeaaRl5
namespace Go.Proofs.Ytilfbnfejnjaeaa
open Go.RowKit

theorem seq_same (s : ByteArray) : (s.toList == s.toList) = true := beq_self_eq_true _
/-- Two tokens agree by the function f. -/
def Agree (f : FuncId) (x y : Tk) : Prop := ∀ W : World, Calls Try.prog f #[.agg #[.int .i64 (x.kind : Int), .string ⟨x.text.toArray⟩, .int .i64 (x.n : Int), .int .i64 (x.at_ : Int)], .agg #[.int .i64 (y.kind : Int), .string ⟨y.text.toArray⟩, .int .i64 (y.n : Int), .int .i64 (y.at_ : Int)]] W fun e w' => e = .returned (.bool true) ∧ Below W.heap.size W w'
set_option maxHeartbeats 1000000 in
theorem same1_agree (x : Tk) : Agree 62 x x := fun W => by
  obtain ⟨S, hS⟩ : ∃ S : ByteArray, (⟨x.text.toArray⟩ : ByteArray) = S := ⟨_, rfl⟩
  rw [hS]
  have hs := seq_same S
  clear hS
  go_enter Try.func62, Try.ntmps62
  go_wp2
  go_ret
  exact ⟨by first | rfl | simp, ((Below.refl W.heap.size W).alloc (Nat.le_refl _) _).alloc (by simp) _⟩
set_option maxHeartbeats 1000000 in
theorem blanks1_agree (x y : Tk) (h : x.kind = y.kind ∧ x.text = y.text ∧ x.n = y.n) : Agree 41 x y := fun W => by
  obtain ⟨kx, tx, nx, ax⟩ := x
  obtain ⟨ky, ty, ny, ay⟩ := y
  obtain ⟨rfl, rfl, rfl⟩ := h
  obtain ⟨S, hS⟩ : ∃ S : ByteArray, (⟨tx.toArray⟩ : ByteArray) = S := ⟨_, rfl⟩
  rw [hS]
  have hs := seq_same S
  clear hS
  go_enter Try.func41, Try.ntmps41
  go_wp2
  go_ret
  exact ⟨by first | rfl | simp, ((Below.refl W.heap.size W).alloc (Nat.le_refl _) _).alloc (by simp) _⟩
theorem box_on {n : Nat} {w w1 : World} {o : Obj} (h : Below (w.alloc o).heap.size (w.alloc o) w1) (hn : n ≤ w.heap.size) : Below n w w1 := (((Below.refl _ _).alloc (Nat.le_refl _) o).trans (h.mono (by simp))).mono hn
set_option maxHeartbeats 4000000 in
theorem eqf_any (f : FuncId) (A A' : Option Addr) (ts us : List Tk) (c c' n : Nat) (w : World) (p p' : Nat → Prop) (hn : ts.length = n) (hn' : us.length = n) (hm : (n : Int) ≤ 140737488355328) (h : Rd w p A (tcs ts)) (h' : Rd w p' A' (tcs us))
    (hf : f = 62 ∨ f = 41) (hC : ∀ (k : Nat) (x y : Tk), ts[k]? = some x → us[k]? = some y → Agree f x y) :
    Calls Try.prog 40 #[.slice A n c, .slice A' n c', .func (.func f) #[] #[]] w fun e w' => e = .returned (.bool true) ∧ Below w.heap.size w w' := by
  have H := Lib.hid h
  have H' := Lib.hid h'
  have HN := Lib.hid hn
  have HN' := Lib.hid hn'
  have HC := Lib.hid hC
  clear h h' hn hn' hC
  rcases hf with rfl | rfl
  all_goals
    go_enter Try.func40, Try.ntmps40
    go_wp2
    go_loopw [17] (fun v wr => ∃ k : Nat, v = .int .i64 (k : Int) ∧ k ≤ n ∧ Hid (Below w.heap.size w wr)) (fun v _ => n - (intOf v).toNat)
    case atStart => exact ⟨0, rfl, Nat.zero_le _, Below.refl _ _⟩
    case round =>
      obtain ⟨k, rfl, hk, hB⟩ := hrel
      by_cases hlt : k < n
      · have h1 : k < ts.length := by rw [HN.out]; exact hlt
        have h2 : k < us.length := by rw [HN'.out]; exact hlt
        obtain ⟨x, hx⟩ : ∃ x, ts[k]? = some x := ⟨_, List.getElem?_eq_getElem h1⟩
        obtain ⟨y, hy⟩ : ∃ y, us[k]? = some y := ⟨_, List.getElem?_eq_getElem h2⟩
        obtain ⟨b, o, rfl, c0, c1, c2, c3⟩ := (H.out.after hB.out).tok hx
        obtain ⟨b', o', rfl, d0, d1, d2, d3⟩ := (H'.out.after hB.out).tok hy
        have lb := lt_of_cell c0
        have lb' := lt_of_cell d0
        have C := Lib.hid (HC.out k x y hx hy)
        clear hx hy h1 h2
        go_wp2_with (first
          | (go_at_call 62; refine (C.out _).mono ?_; rintro e w1 ⟨rfl, hb⟩; have B1 := Lib.hid (hB.out.trans (box_on (n := w.heap.size) (((Below.refl _ _).alloc (Nat.le_refl _) _).trans (hb.mono (by simp))) hB.out.size)); clear hb)
          | (go_at_call 41; refine (C.out _).mono ?_; rintro e w1 ⟨rfl, hb⟩; have B1 := Lib.hid (hB.out.trans (box_on (n := w.heap.size) (((Below.refl _ _).alloc (Nat.le_refl _) _).trans (hb.mono (by simp))) hB.out.size)); clear hb))
        go_round
        case rel => exact ⟨k + 1, by go_num, by omega, B1.out⟩
        case measure => simp [intOf]; omega
      · obtain rfl : k = n := by omega
        go_wp2
        go_ret
        exact ⟨rfl, hB.out⟩
end Go.Proofs.Ytilfbnfejnjaeaa
