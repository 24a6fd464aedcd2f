/- The walk of the statement RecordSums. -/
import Derived.Test.YtilfbnfejnjaeaaAlive3
import Derived.Test.YtilfbnfejnjaeaaRev
namespace Go.Proofs.Ytilfbnfejnjaeaa
open Go.RowKit

theorem tsum_reverse (l : List UInt8) : tsum l.reverse = tsum l := by
  unfold tsum
  rw [List.map_reverse, List.sum_reverse]
theorem ck_reverse (l : List UInt8) : ck l.reverse = ck l := by rw [ck, ck, tsum_reverse]
set_option maxHeartbeats 1000000 in
theorem sums_long (A : Option Addr) (n c : Nat) (w : World) (h : 1000 < (n : Int)) :
    Calls Try.prog 4 #[.slice A n c] w fun e w' => e = .returned (.bool true) ∧ Below w.heap.size w w' := by
  have C := Lib.hid (alive3_any w)
  go_enter Try.func4, Try.ntmps4
  go_wp2_with (go_at_call 13; refine C.out.mono ?_; rintro e w1 ⟨rfl, hb⟩; have HB := Lib.hid hb; clear hb)
  go_ret
  exact ⟨rfl, HB.out⟩
set_option maxHeartbeats 1000000 in
theorem sums_short (A : Option Addr) (l : List UInt8) (c : Nat) (w : World) (p : Nat → Prop) (h : Rd w p A (bs l)) (hm : (l.length : Int) ≤ 1000) :
    Calls Try.prog 4 #[.slice A l.length c] w fun e w' => e = .returned (.bool true) ∧ Below w.heap.size w w' := by
  have C1 := Lib.hid (sum_any A l c w p (by omega) h)
  have C3 : Hid (∀ W : World, Calls Try.prog 13 #[] W fun e w' => e = .returned (.bool true) ∧ Below W.heap.size W w') := fun W => alive3_any W
  have C4 : Hid (∀ W : World, Below w.heap.size w W → Calls Try.prog 20 #[.slice A l.length c] W fun e w' => e = .returned (.int .u8 (ck l : Int)) ∧ W = w') := fun W hb => rsum_any A l c W p (by omega) (h.after hb)
  have C5 : Hid (∀ W : World, Below w.heap.size w W → Calls Try.prog 18 #[.slice A l.length c] W fun e w' => ∃ A' c', e = .returned (.slice A' l.length c') ∧ Below W.heap.size W w' ∧ Calls Try.prog 19 #[.slice A' l.length c'] w' fun e2 w2 => e2 = .returned (.tuple #[]) ∧ Below W.heap.size w' w2 ∧ Rd w2 (fun _ => True) A' (bs l.reverse)) := fun W hb =>
    (clone_any A l l.length c W p rfl (by omega) (h.after hb)).mono fun e w' ⟨v, h1, h2, h3⟩ => by
      obtain ⟨A', c', rfl, h4⟩ := rev_any W.heap.size v l w' (by omega) h2
      exact ⟨A', c', h1, h3, h4⟩
  have C6 : Hid (∀ (W : World) A' c', Rd W (fun _ => True) A' (bs l.reverse) → Calls Try.prog 17 #[.slice A' l.length c'] W fun e w' => e = .returned (.int .u8 (ck l : Int)) ∧ Below W.heap.size W w') := fun W A' c' hr => by
    have := sum_any A' l.reverse c' W _ (by simp; omega) hr
    rw [ck_reverse, List.length_reverse] at this
    exact this
  have HR := Lib.hid h
  have hck := ck_lt l
  have HT : Hid (∀ s t : Nat, s = ck l → t = s + tsum l → t % 256 = 0) := fun s t h1 h2 => by
    rw [h2, h1]
    unfold ck
    omega
  obtain ⟨n, hn⟩ : ∃ n, l.length = n := ⟨_, rfl⟩
  obtain ⟨s, hs⟩ : ∃ s, ck l = s := ⟨_, rfl⟩
  have HS : Hid (s = ck l) := hs.symm
  rw [hn] at C1 C4 C5 C6 hm
  rw [hs] at C1 C4 C6 hck
  rw [hn]
  have C1 : Hid (Calls Try.prog 17 #[.slice A n c] w fun e w' => e = .returned (.int .u8 (s : Int)) ∧ Below w.heap.size w w') := C1.out
  have HN := Lib.hid hn
  have ds : ((s : Int) == (s : Int)) = true := beq_self_eq_true _
  clear h hn hs
  go_enter Try.func4, Try.ntmps4
  go_wp2_with (go_at_call 17; refine C1.out.mono ?_; rintro e w1 ⟨rfl, hb⟩; have B1 := Lib.hid hb; clear hb)
  go_loop [4, 18] (fun u v => ∃ k t : Nat, (k : Int) ≤ n ∧ (t : Int) ≤ 255 + 255 * k ∧ v = .int .i64 k ∧ u = .int .i64 t ∧ Hid (t = s + tsum (l.take k))) (fun _ v => n - (intOf v).toNat)
  case atStart => exact ⟨0, s, by omega, by omega, rfl, rfl, by show _ = _; rw [List.take_zero]; rfl⟩
  case round =>
    obtain ⟨k, t, hk, ht, rfl, rfl, hS⟩ := hrel
    by_cases hlt : k < n
    · obtain ⟨b, o, x, rfl, _, hc0, hz⟩ := HR.out.byteAt (k := k) (by rw [HN.out]; exact hlt)
      have hc := (B1.out.cell (p := ⟨b, o + k, none⟩) (lt_of_cell hc0)).trans hc0
      have HZ := Lib.hid hz
      have h255 := byte_le x
      clear hz hc0
      go_wp2
      go_round
      case rel => exact ⟨k + 1, t + x.toNat, by omega, by omega, by go_num, by go_num, by show _ = _; rw [tsum_at HZ.out, hS.out]; omega⟩
      case measure => simp [intOf]; omega
    · have h256 : t % 256 = 0 := HT.out s t HS.out (by
        have := hS.out
        rw [List.take_of_length_le (by rw [HN.out]; omega)] at this
        exact this)
      have d2 : (t : Int) % 256 = 0 := by omega
      clear h256
      go_wp2_with (first
        | (go_at_call 18; refine (C5.out _ B1.out).mono ?_; rintro e w2 ⟨A', c', rfl, hb, C⟩; have B2 := Lib.hid (B1.out.trans (hb.mono B1.out.size)); have CR := Lib.hid C; have hs2 := hb.size; have S2 : Hid (w.heap.size ≤ w1.heap.size) := B1.out.size; clear hb C)
        | (go_at_call 19; refine CR.out.mono ?_; rintro e w3 ⟨rfl, hb, hr⟩; have B3 := Lib.hid (B2.out.trans (hb.mono S2.out)); have R3 := Lib.hid hr; clear hb hr)
        | (go_at_call 13; refine (C3.out _).mono ?_; rintro e w4 ⟨rfl, hb⟩; have B4 := Lib.hid (B3.out.trans (hb.mono B3.out.size)); have R4 := Lib.hid (R3.out.after hb); clear hb)
        | (go_at_call 20; refine (C4.out _ B4.out).mono ?_; rintro e w5 ⟨rfl, rfl⟩)
        | (go_at_call 17; refine (C6.out _ _ _ R4.out).mono ?_; rintro e w6 ⟨rfl, hb⟩; have B6 := Lib.hid (B4.out.trans (hb.mono B4.out.size)); clear hb))
      go_ret
      exact ⟨rfl, B6.out⟩
theorem sums_any (A : Option Addr) (l : List UInt8) (c : Nat) (w : World) (p : Nat → Prop) (h : Rd w p A (bs l)) : Calls Try.prog 4 #[.slice A l.length c] w fun e w' => e = .returned (.bool true) ∧ Below w.heap.size w w' := by
  by_cases hm : 1000 < (l.length : Int)
  · exact sums_long A _ c w hm
  · exact sums_short A l c w p h (by omega)
end Go.Proofs.Ytilfbnfejnjaeaa
