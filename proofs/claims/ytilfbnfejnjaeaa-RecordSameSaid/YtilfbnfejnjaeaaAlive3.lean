/- The walks of Same of the reference of the package record and of the example of the chapter. -/
import Derived.Test.YtilfbnfejnjaeaaPrint
import Derived.Test.YtilfbnfejnjaeaaRparse
namespace Go.Proofs.Ytilfbnfejnjaeaa
open Go.RowKit

theorem bytesEq (d e : List UInt8) : ((⟨d.toArray⟩ : ByteArray).toList == (⟨e.toArray⟩ : ByteArray).toList) = decide (d = e) := by
  rw [ByteArray.toList_eq, ByteArray.toList_eq, Bool.eq_iff_iff]
  simp
set_option maxHeartbeats 1000000 in
theorem rsame_any (t a t' a' : Int) (A A' : Option Addr) (d d' : List UInt8) (c c' : Nat) (w : World) (p p' : Nat → Prop) (h : Rd w p A (bs d)) (h' : Rd w p' A' (bs d')) :
    Calls Try.prog 16 #[.agg #[.int .i64 t, .int .i64 a, .slice A d.length c], .agg #[.int .i64 t', .int .i64 a', .slice A' d'.length c']] w fun e w' => e = .returned (.bool (decide (t = t' ∧ a = a' ∧ d = d'))) ∧ Below w.heap.size w w' := by
  have H := Lib.hid h
  have H' := Lib.hid h'
  obtain ⟨n, hn⟩ : ∃ n, d.length = n := ⟨_, rfl⟩
  obtain ⟨n', hn'⟩ : ∃ n, d'.length = n := ⟨_, rfl⟩
  rw [hn, hn']
  have HN := Lib.hid hn
  have HN' := Lib.hid hn'
  clear h h' hn hn'
  by_cases h1 : t = t'
  · by_cases h2 : a = a'
    · have d1 : (t == t') = true := by simpa using h1
      have d2 : (a == a') = true := by simpa using h2
      obtain ⟨x, hx⟩ : ∃ x, decide (d = d') = x := ⟨_, rfl⟩
      have HX : Hid (decide (t = t' ∧ a = a' ∧ d = d') = x) := by
        show _ = _
        rw [← hx]
        simp [h1, h2]
      have d3 : (d == d') = x := by rw [← hx, Bool.eq_iff_iff]; simp
      rw [HX.out]
      have k1 : ∀ o o', (convert 23 9 (.slice A n c)).run Try.prog ((w.alloc o).alloc o') = .ok (.string ⟨d.toArray⟩) ((w.alloc o).alloc o') := fun o o' => by
        rw [← HN.out]
        exact run_ofBytes 23 9 5 Try.underlying23 Try.underlying9 Try.underlying5 A c d p (H.out.after (((Below.refl _ _).alloc (Nat.le_refl _) _).alloc (by simp) _))
      have k2 : ∀ o o', (convert 23 9 (.slice A' n' c')).run Try.prog ((w.alloc o).alloc o') = .ok (.string ⟨d'.toArray⟩) ((w.alloc o).alloc o') := fun o o' => by
        rw [← HN'.out]
        exact run_ofBytes 23 9 5 Try.underlying23 Try.underlying9 Try.underlying5 A' c' d' p' (H'.out.after (((Below.refl _ _).alloc (Nat.le_refl _) _).alloc (by simp) _))
      clear h1 h2 hx
      have hb0 : Hid (∀ o o', Below w.heap.size w ((w.alloc o).alloc o')) := fun o o' => ((Below.refl _ _).alloc (Nat.le_refl _) _).alloc (by simp) _
      go_enter Try.func16, Try.ntmps16
      go_wp2
      go_ret
      exact ⟨rfl, hb0.out _ _⟩
    · have d1 : (t == t') = true := by simpa using h1
      have d2 : (a == a') = false := by simpa using h2
      have HX : Hid (decide (t = t' ∧ a = a' ∧ d = d') = false) := by
        show _ = _
        simp [h2]
      rw [HX.out]
      clear h1 h2
      go_enter Try.func16, Try.ntmps16
      go_wp2
      go_ret
      exact ⟨rfl, ((Below.refl _ _).alloc (Nat.le_refl _) _).alloc (by simp) _⟩
  · have d1 : (t == t') = false := by simpa using h1
    have HX : Hid (decide (t = t' ∧ a = a' ∧ d = d') = false) := by
      show _ = _
      simp [h1]
    rw [HX.out]
    clear h1
    go_enter Try.func16, Try.ntmps16
    go_wp2
    go_ret
    exact ⟨rfl, ((Below.refl _ _).alloc (Nat.le_refl _) _).alloc (by simp) _⟩

theorem alive_line : lineOf (headB 0 0 1 ++ []) = [58, 48, 48, 48, 48, 48, 48, 48, 49, 70, 70] := by decide +kernel
theorem alive_rec : recOf [58, 48, 48, 48, 48, 48, 48, 48, 49, 70, 70] = (0, 1, 0, []) := by decide +kernel
set_option maxHeartbeats 1000000 in
theorem alive3_any (w : World) : Calls Try.prog 13 #[] w fun e w' => e = .returned (.bool true) ∧ Below w.heap.size w w' := by
  have C1 : Hid (∀ W : World, Calls Try.prog 21 #[.agg #[.int .i64 1, .int .i64 0, .slice none 0 0]] W fun e w' => e = .returned (.tuple #[.string ⟨#[58, 48, 48, 48, 48, 48, 48, 48, 49, 70, 70]⟩, .bool true]) ∧ Below W.heap.size W w') := fun W => by
    have := print_yes 1 0 none [] 0 (fun _ => True) W (by decide) (Rd.nil _ _ _)
    rw [show headB ([] : List UInt8).length 0 1 = headB 0 0 1 from rfl, alive_line] at this
    exact this
  have C2 : Hid (∀ W : World, Calls Try.prog 14 #[.string ⟨#[58, 48, 48, 48, 48, 48, 48, 48, 49, 70, 70]⟩] W fun e w' => ∃ A c, e = .returned (.tuple #[.agg #[.int .i64 1, .int .i64 0, .slice A 0 c], .int .i64 0]) ∧ Below W.heap.size W w') := fun W => by
    have := parse_any ⟨#[58, 48, 48, 48, 48, 48, 48, 48, 49, 70, 70]⟩ W (by decide)
    rw [show recOf (⟨#[58, 48, 48, 48, 48, 48, 48, 48, 49, 70, 70]⟩ : ByteArray).data.toList = (0, 1, 0, []) from alive_rec] at this
    exact this.mono fun e w' ⟨A, c, h1, _, h2⟩ => ⟨A, c, h1, h2⟩
  go_enter Try.func13, Try.ntmps13
  go_wp2_with (first
    | (go_at_call 21; refine (C1.out _).mono ?_; rintro e w1 ⟨rfl, hb⟩; have HB := Lib.hid hb; clear hb)
    | (go_at_call 14; refine (C2.out _).mono ?_; rintro e w2 ⟨A, c, rfl, hb⟩; have HB2 := Lib.hid (HB.out.trans (hb.mono HB.out.size)); clear hb))
  go_ret
  exact ⟨rfl, HB2.out.alloc HB2.out.size _⟩
end Go.Proofs.Ytilfbnfejnjaeaa
