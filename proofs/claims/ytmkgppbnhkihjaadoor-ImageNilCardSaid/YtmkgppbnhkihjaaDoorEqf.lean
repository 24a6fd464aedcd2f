/- The walks of slices.EqualFunc of two lists of runs, and of Same of two images. -/
import Derived.Test.YtmkgppbnhkihjaaDoorLawGets
namespace Go.Proofs.YtmkgppbnhkihjaaDoor
open Go.RowKit Go.Shelf

theorem run_same (a a' : Int) (A A' : Option Addr) (l l' : List UInt8) (c c' : Nat) (w : World) (p p' : Nat → Prop) (hm : (l.length : Int) ≤ 9223372036854775807) (h : Rd w p A (bs l)) (h' : Rd w p' A' (bs l')) :
    Calls Tryd.prog 34 #[.agg #[.int .i64 a, .slice A l.length c], .agg #[.int .i64 a', .slice A' l'.length c']] w fun e w' => e = .returned (.bool (decide ((a, l) = (a', l')))) ∧ Below w.heap.size w w' := by
  have C1 : Hid (∀ W, Below w.heap.size w W → Calls Tryd.prog 26 #[.slice A l.length c, .slice A' l'.length c'] W fun e w' => e = .returned (.bool (decide (l = l'))) ∧ ∃ m, w' = W.drewN m) := fun W hb =>
    equal_any A A' l l' _ _ c c' W p p' rfl rfl hm (h.after hb) (h'.after hb)
  have hb2 : Hid (Below w.heap.size w ((w.alloc (.cells #[.int .i64 a, .slice A l.length c] 39)).alloc (.cells #[.int .i64 a', .slice A' l'.length c'] 39))) := ((Below.refl _ _).alloc (Nat.le_refl _) _).alloc (by simp) _
  by_cases ha : a = a'
  · subst ha
    have e1 : decide ((a, l) = (a, l')) = decide (l = l') := by simp
    rw [e1]
    obtain ⟨x, hx⟩ : ∃ x, decide (l = l') = x := ⟨_, rfl⟩
    rw [hx] at C1 ⊢
    obtain ⟨n, hn⟩ : ∃ n, l.length = n := ⟨_, rfl⟩
    obtain ⟨n', hn'⟩ : ∃ n, l'.length = n := ⟨_, rfl⟩
    rw [hn, hn'] at C1 hb2 ⊢
    have d1 : (a == a) = true := beq_self_eq_true a
    clear h h' hm e1 hx hn hn'
    go_enter Tryd.func34, Tryd.ntmps34
    go_wp2_with (go_at_call 26; refine (C1.out _ hb2.out).mono ?_; rintro e w1 ⟨rfl, m, rfl⟩)
    go_ret
    exact ⟨rfl, below_drewN hb2.out m⟩
  · have e1 : decide ((a, l) = (a', l')) = false := by rw [decide_eq_false_iff_not]; intro e; injection e with e; exact ha e
    rw [e1]
    have d1 : (a == a') = false := by simpa using ha
    clear h h' hm e1 ha C1
    go_enter Tryd.func34, Tryd.ntmps34
    go_wp2
    go_ret
    exact ⟨rfl, hb2.out⟩

theorem take_succ_eq {α : Type} {R R' : List α} {k : Nat} (h1 : k < R.length) (h2 : k < R'.length) (h : R.take k = R'.take k) (e : R[k] = R'[k]) : R.take (k + 1) = R'.take (k + 1) := by
  rw [List.take_succ_eq_append_getElem h1, List.take_succ_eq_append_getElem h2, h, e]
theorem take_ne {α : Type} {R R' : List α} {k : Nat} (h1 : k < R.length) (h2 : k < R'.length) (e : R[k] ≠ R'[k]) : R ≠ R' := by
  rintro rfl
  exact e rfl

theorem eqf_len (A A' : Option Addr) (n n' c c' : Nat) (f : Value) (w : World) (hn : n ≠ n') :
    Calls Tryd.prog 33 #[.slice A n c, .slice A' n' c', f] w fun e w' => e = .returned (.bool false) ∧ w = w' := by
  have h : (((n : Nat) : Int) != (n' : Int)) = true := by simp; omega
  clear hn
  go_enter Tryd.func33, Tryd.ntmps33
  go_wp2
  go_ret
  exact ⟨rfl, rfl⟩

set_option maxHeartbeats 1000000 in
set_option maxRecDepth 100000 in
theorem eqf_same (A A' : Option Addr) (xs xs' : List Value) (R R' : List (Int × List UInt8)) (N c c' : Nat) (w : World) (p p' q q' : Nat → Prop) (hN : R.length = N) (hN' : R'.length = N) (hb : (N : Int) ≤ 65536)
    (hm : ∀ r ∈ R, (r.2.length : Int) ≤ 65536) (h : Rd w p A xs) (hR : RunVals w q xs R) (h' : Rd w p' A' xs') (hR' : RunVals w q' xs' R') :
    Calls Tryd.prog 33 #[.slice A N c, .slice A' N c', .func (.func 34) #[] #[]] w fun e w' => e = .returned (.bool (decide (R = R'))) ∧ Below w.heap.size w w' := by
  have H := Lib.hid h
  have HV := Lib.hid hR
  have H' := Lib.hid h'
  have HV' := Lib.hid hR'
  have HN := Lib.hid hN
  have HN' := Lib.hid hN'
  have HM := Lib.hid hm
  have e0 : (((N : Nat) : Int) != (N : Int)) = false := bne_self_eq_false _
  clear h h' hR hR' hN hN' hm
  go_enter Tryd.func33, Tryd.ntmps33
  go_wp2
  clear e0
  go_loopw [17] (fun v wr => ∃ k : Nat, k ≤ N ∧ v = .int .i64 k ∧ Hid (R.take k = R'.take k) ∧ Hid (Below w.heap.size w wr)) (fun v _ => N - (intOf v).toNat)
  case atStart => exact ⟨0, Nat.zero_le _, rfl, rfl, Below.refl _ _⟩
  case round =>
    obtain ⟨k, hk, rfl, ht, hb⟩ := hrel
    by_cases hlt : k < N
    · have hkr : k < R.length := by rw [HN.out]; exact hlt
      have hkr' : k < R'.length := by rw [HN'.out]; exact hlt
      obtain ⟨b, o, B, cb, rfl, _, hc1, hc2, hd1⟩ := (H.out.after hb.out).run (HV.out.after hb.out) hkr
      obtain ⟨b', o', B', cb', rfl, _, hd2, hd3, hd4⟩ := (H'.out.after hb.out).run (HV'.out.after hb.out) hkr'
      have hrl := HM.out _ (List.getElem_mem hkr)
      obtain ⟨r, hr⟩ : ∃ r, R[k] = r := ⟨_, rfl⟩
      obtain ⟨r', hr'⟩ : ∃ r, R'[k] = r := ⟨_, rfl⟩
      have HR := Lib.hid hr
      have HR' := Lib.hid hr'
      simp only [hr] at hc1 hc2 hd1 hrl
      simp only [hr'] at hd2 hd3 hd4
      have CE : Hid (∀ W, Below wr.heap.size wr W → Calls Tryd.prog 34 #[.agg #[.int .i64 r.1, .slice B r.2.length cb], .agg #[.int .i64 r'.1, .slice B' r'.2.length cb']] W fun e w' => e = .returned (.bool (decide (r = r'))) ∧ Below W.heap.size W w') := fun W hbW =>
        run_same r.1 r'.1 B B' r.2 r'.2 cb cb' W _ _ (by omega) (hd1.after hbW) (hd4.after hbW)
      have k2 := fun O => keep_alloc0 O hd2
      have k3 := fun O => keep_alloc0 O hd3
      clear hd1 hd4 hrl hd2 hd3 hr hr'
      by_cases e : r = r'
      · have E := Lib.hid e
        rw [decide_eq_true e] at CE
        clear e
        go_wp2_with (go_at_call 34; refine (CE.out _ (((Below.refl _ _).alloc (Nat.le_refl _) _).alloc (by simp) _)).mono ?_; rintro e w3 ⟨rfl, hb3⟩; have HB3 := Lib.hid hb3; clear hb3)
        go_roundw
        case rel => exact ⟨k + 1, by omega, by go_num, take_succ_eq hkr hkr' ht.out (by rw [HR.out, HR'.out, E.out]), ((hb.out.alloc hb.out.size _).alloc (by simp; have := hb.out.size; omega) _).trans (HB3.out.mono (by simp; have := hb.out.size; omega))⟩
        case measure => simp [intOf]; omega
      · have E := Lib.hid (take_ne hkr hkr' (by rw [HR.out, HR'.out]; exact e))
        rw [decide_eq_false e] at CE
        clear e
        go_wp2_with (go_at_call 34; refine (CE.out _ (((Below.refl _ _).alloc (Nat.le_refl _) _).alloc (by simp) _)).mono ?_; rintro e w3 ⟨rfl, hb3⟩; have HB3 := Lib.hid hb3; clear hb3)
        go_ret
        exact ⟨ret_bool (by rw [decide_eq_false_iff_not.2 E.out]), ((hb.out.alloc hb.out.size _).alloc (by simp; have := hb.out.size; omega) _).trans (HB3.out.mono (by simp; have := hb.out.size; omega))⟩
    · have E : Hid (R = R') := by
        have := ht.out
        rw [List.take_of_length_le (by rw [HN.out]; omega), List.take_of_length_le (by rw [HN'.out]; omega)] at this
        exact this
      clear ht
      go_wp2
      go_ret
      exact ⟨ret_bool (decide_eq_true E.out).symm, hb.out⟩
theorem eqf_any (A A' : Option Addr) (xs xs' : List Value) (R R' : List (Int × List UInt8)) (n n' c c' : Nat) (w : World) (p p' q q' : Nat → Prop) (hN : R.length = n) (hN' : R'.length = n') (hb : (n : Int) ≤ 65536)
    (hm : ∀ r ∈ R, (r.2.length : Int) ≤ 65536) (h : Rd w p A xs) (hR : RunVals w q xs R) (h' : Rd w p' A' xs') (hR' : RunVals w q' xs' R') :
    Calls Tryd.prog 33 #[.slice A n c, .slice A' n' c', .func (.func 34) #[] #[]] w fun e w' => e = .returned (.bool (decide (R = R'))) ∧ Below w.heap.size w w' := by
  by_cases e : n = n'
  · subst e
    exact eqf_same A A' xs xs' R R' n c c' w p p' q q' hN hN' hb hm h hR h' hR'
  · refine (eqf_len A A' n n' c c' _ w e).mono fun e2 w' ⟨he, hw⟩ => ⟨?_, hw ▸ Below.refl _ _⟩
    rw [he]
    refine ret_bool ?_
    symm
    rw [decide_eq_false_iff_not]
    rintro rfl
    exact e (by omega)
end Go.Proofs.YtmkgppbnhkihjaaDoor
