/- The walk of Same of the reference: two lists of cells. -/
import Derived.Test.YtmkgppbnhkihjaaDoorClone
namespace Go.Proofs.YtmkgppbnhkihjaaDoor
open Go.RowKit Go.Shelf

theorem rsame_len (A A' : Option Addr) (n n' c c' : Nat) (w : World) (hn : n ≠ n') :
    Calls Tryd.prog 25 #[.slice A n c, .slice A' n' c'] w fun e w' => e = .returned (.bool false) ∧ w = w' := by
  have h : (((n : Nat) : Int) != (n' : Int)) = true := by simp; omega
  clear hn
  go_enter Tryd.func25, Tryd.ntmps25
  go_wp2
  go_ret
  exact ⟨rfl, rfl⟩

set_option maxHeartbeats 1000000 in
set_option maxRecDepth 100000 in
theorem rsame_same (A A' : Option Addr) (L L' : List (Nat × UInt8)) (N c c' : Nat) (w : World) (p p' : Nat → Prop) (hN : L.length = N) (hN' : L'.length = N) (hb : (N : Int) ≤ 65536)
    (h : Rd w p A (cl L)) (h' : Rd w p' A' (cl L')) :
    Calls Tryd.prog 25 #[.slice A N c, .slice A' N c'] w fun e w' => e = .returned (.bool (decide (L = L'))) ∧ Below w.heap.size w w' := by
  have H := Lib.hid h
  have H' := Lib.hid h'
  have HN := Lib.hid hN
  have HN' := Lib.hid hN'
  have e0 : (((N : Nat) : Int) != (N : Int)) = false := bne_self_eq_false _
  clear h h' hN hN'
  go_enter Tryd.func25, Tryd.ntmps25
  go_wp2
  clear e0
  go_loopw [5] (fun v wr => ∃ k : Nat, k ≤ N ∧ v = .int .i64 k ∧ Hid (L.take k = L'.take k) ∧ Hid (Below w.heap.size w wr)) (fun v _ => N - (intOf v).toNat)
  case atStart => exact ⟨0, Nat.zero_le _, rfl, rfl, Below.refl _ _⟩
  case round =>
    obtain ⟨k, hk, rfl, ht, hb⟩ := hrel
    by_cases hlt : k < N
    · have hkr : k < L.length := by rw [HN.out]; exact hlt
      have hkr' : k < L'.length := by rw [HN'.out]; exact hlt
      obtain ⟨b, o, rfl, _, hc1, hc2⟩ := (H.out.after hb.out).cell hkr
      obtain ⟨b', o', rfl, _, hd1, hd2⟩ := (H'.out.after hb.out).cell hkr'
      obtain ⟨r, hr⟩ : ∃ r, L[k] = r := ⟨_, rfl⟩
      obtain ⟨r', hr'⟩ : ∃ r, L'[k] = r := ⟨_, rfl⟩
      have HR := Lib.hid hr
      have HR' := Lib.hid hr'
      simp only [hr] at hc1 hc2
      simp only [hr'] at hd1 hd2
      clear hr hr'
      have b1 : (0 : Int) ≤ (k : Int) := by omega
      have b2 : (k : Int) < (N : Int) := by omega
      by_cases e : r = r'
      · have E := Lib.hid e
        subst e
        go_wp2
        go_quiet (fail)
        go_wp2
        go_roundw
        case rel => exact ⟨k + 1, by omega, by go_num, take_succ_eq hkr hkr' ht.out (by rw [HR.out, HR'.out]), below_drewN hb.out _⟩
        case measure => simp [intOf]; omega
      · have E := Lib.hid (take_ne hkr hkr' (by rw [HR.out, HR'.out]; exact e))
        obtain ⟨x, y⟩ := r
        obtain ⟨x', y'⟩ := r'
        by_cases ex : x = x'
        · subst ex
          have ey : y.toNat ≠ y'.toNat := fun h => e (by rw [UInt8.toNat_inj.1 h])
          have e1 : ((y.toNat : Int) == (y'.toNat : Int)) = false := by rw [beq_eq_false_iff_ne]; omega
          have e2 : (y.toNat == y'.toNat) = false := by rw [beq_eq_false_iff_ne]; exact ey
          have e3 : decide (y.toNat = y'.toNat) = false := by rw [decide_eq_false_iff_not]; exact ey
          clear e
          go_wp2
          go_quiet (fail)
          go_wp2
          go_ret
          exact ⟨ret_bool (by rw [decide_eq_false_iff_not.2 E.out]), below_drewN hb.out _⟩
        · have e1 : ((x : Int) == (x' : Int)) = false := by rw [beq_eq_false_iff_ne]; omega
          have e2 : (x == x') = false := by rw [beq_eq_false_iff_ne]; exact ex
          have e3 : decide (x = x') = false := by rw [decide_eq_false_iff_not]; exact ex
          clear e
          go_wp2
          go_quiet (fail)
          go_wp2
          go_ret
          exact ⟨ret_bool (by rw [decide_eq_false_iff_not.2 E.out]), below_drewN hb.out _⟩
    · have E : Hid (L = L') := by
        have := ht.out
        rw [List.take_of_length_le (by rw [HN.out]; omega), List.take_of_length_le (by rw [HN'.out]; omega)] at this
        exact this
      clear ht
      go_wp2
      go_ret
      exact ⟨ret_bool (decide_eq_true E.out).symm, hb.out⟩
theorem rsame_any (A A' : Option Addr) (L L' : List (Nat × UInt8)) (n n' c c' : Nat) (w : World) (p p' : Nat → Prop) (hN : L.length = n) (hN' : L'.length = n') (hb : (n : Int) ≤ 65536)
    (h : Rd w p A (cl L)) (h' : Rd w p' A' (cl L')) :
    Calls Tryd.prog 25 #[.slice A n c, .slice A' n' c'] w fun e w' => e = .returned (.bool (decide (L = L'))) ∧ Below w.heap.size w w' := by
  by_cases e : n = n'
  · subst e
    exact rsame_same A A' L L' n c c' w p p' hN hN' hb h h'
  · refine (rsame_len A A' n n' c c' w e).mono fun e2 w' ⟨he, hw⟩ => ⟨?_, hw ▸ Below.refl _ _⟩
    rw [he]
    refine ret_bool ?_
    symm
    rw [decide_eq_false_iff_not]
    rintro rfl
    exact e (by omega)
end Go.Proofs.YtmkgppbnhkihjaaDoor
