/- The walks of the cursor of the package lex: isLetter, isDigit, peek, rest, run, blanks. -/
import Derived.Test.YtilfbnfejnjaeaaLex
import Derived.Test.YtilfbnfejnjaeaaDigits
import Derived.BigQuiet
namespace Go.Proofs.Ytilfbnfejnjaeaa
open Go.RowKit

theorem an_all : ∀ n : Fin 256, (65 ≤ bits .andNot .u8 (n.val : Int) 32 ∧ bits .andNot .u8 (n.val : Int) 32 ≤ 90 ↔ isAl (UInt8.ofNat n.val) = true) ∧ 0 ≤ bits .andNot .u8 (n.val : Int) 32 ∧ bits .andNot .u8 (n.val : Int) 32 ≤ 255 := by decide +kernel
theorem an_is (c : UInt8) : ∃ z : Int, bits .andNot .u8 (c.toNat : Int) 32 = z ∧ 0 ≤ z ∧ z ≤ 255 ∧ (65 ≤ z ∧ z ≤ 90 ↔ isAl c = true) := by
  have := an_all ⟨c.toNat, c.toNat_lt⟩
  rw [show UInt8.ofNat (⟨c.toNat, c.toNat_lt⟩ : Fin 256).val = c from by simp] at this
  exact ⟨_, rfl, this.2.1, this.2.2, this.1⟩
def ptL : List UInt8 := [95, 46, 63, 64]
theorem pt_all : ∀ n : Fin 256, decide (0 ≤ Lib.indexByte ptL (UInt8.ofNat n.val)) = isPt (UInt8.ofNat n.val) := by decide +kernel
theorem pt_eq (c : UInt8) : decide (0 ≤ Lib.indexByte ptL c) = isPt c := by
  have := pt_all ⟨c.toNat, c.toNat_lt⟩
  rw [show UInt8.ofNat (⟨c.toNat, c.toNat_lt⟩ : Fin 256).val = c from by simp] at this
  exact this
theorem ptpos (c : UInt8) (w : World) : Calls Try.prog 94 #[.string ⟨#[95, 46, 63, 64]⟩, .int .u8 (c.toNat : Int)] w fun e w' => e = .returned (.int .i64 (Lib.indexByte ptL c)) ∧ w = w' := by
  refine (Try.strings_IndexByte ⟨#[95, 46, 63, 64]⟩ (c.toNat : Int) w).mono fun e w' ⟨he, hw⟩ => ⟨?_, hw.symm⟩
  rw [he]
  have e2 : ((c.toNat : Int).toNat).toUInt8 = c := by simp
  rw [e2]
  rfl
theorem letter_any (c : UInt8) (w : World) : Calls Try.prog 76 #[.int .u8 (c.toNat : Int)] w fun e w' => e = .returned (.bool (isL c)) ∧ w = w' := by
  obtain ⟨z, hz, h0, h1, h2⟩ := an_is c
  have CI : Hid (Calls Try.prog 94 #[.string ⟨#[95, 46, 63, 64]⟩, .int .u8 (c.toNat : Int)] w fun e w' => e = .returned (.int .i64 (Lib.indexByte ptL c)) ∧ w = w') := ptpos c w
  obtain ⟨i, hi⟩ : ∃ i, Lib.indexByte ptL c = i := ⟨_, rfl⟩
  have hp := pt_eq c
  rw [hi] at CI hp
  by_cases ha : isAl c = true
  · have HB : Hid (isL c = true) := by show _ = _; unfold isL; rw [ha]; rfl
    obtain ⟨k0, k1⟩ := h2.2 ha
    rw [HB.out]
    clear h2 ha hp hi
    go_enter Try.func76, Try.ntmps76
    go_wp2
    go_ret
    exact ⟨rfl, rfl⟩
  · have HB : Hid (isL c = decide (0 ≤ i)) := by show _ = _; unfold isL; rw [hp, Bool.eq_false_iff.2 ha]; rfl
    have k : z < 65 ∨ 90 < z := by
      rcases Int.lt_or_le z 65 with h | h
      · exact .inl h
      · rcases Int.lt_or_le 90 z with h' | h'
        · exact .inr h'
        · exact absurd (h2.1 ⟨h, h'⟩) ha
    rw [HB.out]
    clear h2 ha hp hi
    rcases k with k | k
    all_goals
      go_enter Try.func76, Try.ntmps76
      go_wp2_with (go_at_call 94; refine CI.out.mono ?_; rintro e w' ⟨rfl, rfl⟩)
      go_ret
      first
        | exact ⟨rfl, rfl⟩
        | exact ⟨ret_bool (by rw [decide_eq_false (show ¬ z ≤ 90 by omega)]; rfl), rfl⟩
theorem isD_cases (c : UInt8) : (isD c = true ∧ 48 ≤ (c.toNat : Int) ∧ (c.toNat : Int) ≤ 57) ∨ (isD c = false ∧ (c.toNat : Int) < 48) ∨ (isD c = false ∧ 57 < (c.toNat : Int)) := by
  unfold isD
  by_cases h : 48 ≤ c.toNat ∧ c.toNat ≤ 57
  · exact .inl ⟨decide_eq_true h, by omega, by omega⟩
  · rcases Nat.lt_or_ge c.toNat 48 with h' | h'
    · exact .inr (.inl ⟨decide_eq_false h, by omega⟩)
    · exact .inr (.inr ⟨decide_eq_false h, by omega⟩)
theorem digit_lex (c : UInt8) (w : World) : Calls Try.prog 96 #[.int .u8 (c.toNat : Int)] w fun e w' => e = .returned (.bool (isD c)) ∧ w = w' := by
  rcases isD_cases c with ⟨h, h0, h1⟩ | ⟨h, h0⟩ | ⟨h, h0⟩
  all_goals
    rw [h]
    clear h
    go_enter Try.func96, Try.ntmps96
    go_wp2
    go_ret
    first
      | exact ⟨rfl, rfl⟩
      | exact ⟨ret_bool (decide_eq_true (by omega)), rfl⟩
      | exact ⟨ret_bool (decide_eq_false (by omega)), rfl⟩

/-- The byte at place k; 0 behind the end. -/
def pkc (l : List UInt8) (k : Nat) : UInt8 := l[k]?.getD 0
theorem pkc_drop (l : List UInt8) (k : Nat) : pkc l k = (l.drop k).head?.getD 0 := by simp [pkc]
theorem drew_of {w : World} {P : Program} {f : FuncId} {args : Array Value} {v : Value} {n : Nat} (h : ∀ W : World, W.heap = w.heap → Calls P f args W fun e w' => e = .returned v ∧ ∃ m, w' = W.drewN m) : Calls P f args (w.drewN n) fun e w'' => e = .returned v ∧ ∃ m, w'' = w.drewN m :=
  Calls.quiet_of (h (w.drewN n) rfl)
theorem cell_heap {w W : World} (h : W.heap = w.heap) (a : Addr) : W.cell? a = w.cell? a := World.cell?_of_block (w := w) (by rw [h])
theorem peek_any (b o k : Nat) (s : ByteArray) (w : World) (hs : (s.size : Int) ≤ 140737488355328) (hk : k ≤ s.size) (h0 : w.cell? ⟨b, o, none⟩ = some (.string s)) (h1 : w.cell? ⟨b, o + 1, none⟩ = some (.int .i64 (k : Int))) :
    Calls Try.prog 77 #[.pointer (some ⟨b, o, none⟩)] w fun e w' => e = .returned (.int .u8 ((pkc s.data.toList k).toNat : Int)) ∧ ∃ m, w' = w.drewN m := by
  by_cases hlt : k < s.size
  · obtain ⟨c, hc, hl⟩ := str_at s hlt
    have HC : Hid (pkc s.data.toList k = c) := by show _ = _; unfold pkc; rw [hl]; rfl
    rw [HC.out]
    clear hl
    have hki : (k : Int) < (s.size : Int) := by omega
    go_enter Try.func77, Try.ntmps77
    go_wp2
    go_quiet (fail)
    go_wp2
    go_quiet (fail)
    go_wp2
    go_ret
    exact ⟨rfl, _, World.drewN_drewN _ _ _⟩
  · have HC : Hid (pkc s.data.toList k = 0) := by show _ = _; unfold pkc; rw [List.getElem?_eq_none (by rw [str_len]; omega)]; rfl
    rw [HC.out]
    have hki : (s.size : Int) ≤ (k : Int) := by omega
    go_enter Try.func77, Try.ntmps77
    go_wp2
    go_quiet (fail)
    go_wp2
    go_ret
    exact ⟨rfl, _, rfl⟩
theorem rest_any (b o k : Nat) (s : ByteArray) (w : World) (hs : (s.size : Int) ≤ 140737488355328) (hk : (k : Int) ≤ (s.size : Int)) (h0 : w.cell? ⟨b, o, none⟩ = some (.string s)) (h1 : w.cell? ⟨b, o + 1, none⟩ = some (.int .i64 (k : Int))) :
    Calls Try.prog 98 #[.pointer (some ⟨b, o, none⟩)] w fun e w' => e = .returned (.string (s.extract k s.size)) ∧ ∃ m, w' = w.drewN m := by
  go_enter Try.func98, Try.ntmps98
  go_wp2
  go_quiet (fail)
  go_wp2
  go_ret
  exact ⟨rfl, _, rfl⟩
end Go.Proofs.Ytilfbnfejnjaeaa
