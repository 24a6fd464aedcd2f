/- The walk of Same of the package record. -/
import Derived.Test.YtilfbnfejnjaeaaAlive3
import Derived.Test.YtilfbnfejnjaeaaEqual
namespace Go.Proofs.Ytilfbnfejnjaeaa
open Go.RowKit

set_option maxHeartbeats 1000000 in
theorem osame_any (t a t' a' : Int) (A A' : Option Addr) (d d' : List UInt8) (c c' : Nat) (w : World) (p p' : Nat → Prop) (hm : (d.length : Int) ≤ 9223372036854775807) (h : Rd w p A (bs d)) (h' : Rd w p' A' (bs d')) :
    Calls Try.prog 24 #[.agg #[.int .i64 t, .int .i64 a, .slice A d.length c], .agg #[.int .i64 t', .int .i64 a', .slice A' d'.length c']] w fun e w' => e = .returned (.bool (decide (t = t' ∧ a = a' ∧ d = d'))) ∧ Below w.heap.size w w' := by
  have CE : Hid (∀ W : World, Below w.heap.size w W → Calls Try.prog 28 #[.slice A d.length c, .slice A' d'.length c'] W fun e w' => e = .returned (.bool (decide (d = d'))) ∧ Below W.heap.size W w') := fun W hb =>
    (equal_any A A' d d' _ _ c c' W p p' rfl rfl hm (h.after hb) (h'.after hb)).mono fun e w' ⟨h1, m, h2⟩ => ⟨h1, by rw [h2]; exact below_of_drewN _ _ _⟩
  obtain ⟨n, hn⟩ : ∃ n, d.length = n := ⟨_, rfl⟩
  obtain ⟨n', hn'⟩ : ∃ n, d'.length = n := ⟨_, rfl⟩
  rw [hn, hn'] at CE
  rw [hn, hn']
  clear h h' hm hn hn'
  have HA : Hid (Below w.heap.size w ((w.alloc (.cells #[.int .i64 t, .int .i64 a, .slice A n c] 25)).alloc (.cells #[.int .i64 t', .int .i64 a', .slice A' n' c'] 25))) := ((Below.refl _ _).alloc (Nat.le_refl _) _).alloc (by simp) _
  by_cases h1 : t = t'
  · by_cases h2 : a = a'
    · have d1 : (t == t') = true := by simpa using h1
      have d2 : (a == a') = true := by simpa using h2
      obtain ⟨x, hx⟩ : ∃ x, decide (d = d') = x := ⟨_, rfl⟩
      have HX : Hid (decide (t = t' ∧ a = a' ∧ d = d') = x) := by
        show _ = _
        rw [← hx]
        simp [h1, h2]
      rw [hx] at CE
      rw [HX.out]
      clear h1 h2 hx
      go_enter Try.func24, Try.ntmps24
      go_wp2_with (go_at_call 28; refine (CE.out _ HA.out).mono ?_; rintro e w1 ⟨rfl, hb⟩; have HB := Lib.hid (HA.out.trans (hb.mono HA.out.size)); clear hb)
      go_ret
      exact ⟨rfl, HB.out⟩
    · have d1 : (t == t') = true := by simpa using h1
      have d2 : (a == a') = false := by simpa using h2
      have HX : Hid (decide (t = t' ∧ a = a' ∧ d = d') = false) := by
        show _ = _
        simp [h2]
      rw [HX.out]
      clear h1 h2
      go_enter Try.func24, Try.ntmps24
      go_wp2
      go_ret
      exact ⟨rfl, HA.out⟩
  · have d1 : (t == t') = false := by simpa using h1
    have HX : Hid (decide (t = t' ∧ a = a' ∧ d = d') = false) := by
      show _ = _
      simp [h1]
    rw [HX.out]
    clear h1
    go_enter Try.func24, Try.ntmps24
    go_wp2
    go_ret
    exact ⟨rfl, HA.out⟩
end Go.Proofs.Ytilfbnfejnjaeaa
