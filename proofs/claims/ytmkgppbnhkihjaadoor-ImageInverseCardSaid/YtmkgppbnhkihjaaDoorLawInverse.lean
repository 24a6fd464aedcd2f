/- The walk of the statement ImageInverse. -/
import Derived.Test.YtmkgppbnhkihjaaDoorOf2
import Derived.Test.YtmkgppbnhkihjaaDoorLawPuts
namespace Go.Proofs.YtmkgppbnhkihjaaDoor
open Go.RowKit Go.Shelf

theorem gp_at : ∀ {R : List (Nat × List UInt8)} {b : Nat}, Gp R b → ∀ k (h : k < R.length), 0 < R[k].2.length ∧ R[k].1 + R[k].2.length < b ∧ ∀ (h' : k + 1 < R.length), R[k].1 + R[k].2.length < R[k + 1].1
  | [], _, _, k, h => absurd h (Nat.not_lt_zero _)
  | r :: R, b, hg, 0, h => by
    have h2 := start_le hg.2.2
    have h3 := hg.2.1
    refine ⟨List.length_pos_iff.2 hg.1, by show r.1 + r.2.length < b; omega, fun h' => ?_⟩
    cases R with
    | nil => simp at h'
    | cons r' R => exact h3
  | r :: R, b, hg, k + 1, h => by
    obtain ⟨h1, h2, h3⟩ := gp_at hg.2.2 k (by simpa using h)
    exact ⟨h1, h2, fun h' => h3 (by simpa using h')⟩
theorem gp_ri {R : List (Nat × List UInt8)} (hg : Gp R 65537) (k : Nat) (h : k < (ri R).length) : (0 : Int) < (ri R)[k].2.length ∧ 0 ≤ (ri R)[k].1 ∧ (ri R)[k].1 + (ri R)[k].2.length ≤ 65536 := by
  have hk : k < R.length := by rw [ri_length] at h; exact h
  obtain ⟨h1, h2, _⟩ := gp_at hg k hk
  have e : (ri R)[k] = ((R[k].1 : Int), R[k].2) := by simp [ri]
  rw [e]
  exact ⟨by show (0 : Int) < (R[k].2.length : Int); omega, by show (0 : Int) ≤ (R[k].1 : Int); omega, by show (R[k].1 : Int) + (R[k].2.length : Int) ≤ 65536; omega⟩
theorem gp_ri2 {R : List (Nat × List UInt8)} (hg : Gp R 65537) (j : Nat) (h' : j < (ri R).length) (h : j + 1 < (ri R).length) : (ri R)[j].1 + (ri R)[j].2.length < (ri R)[j + 1].1 := by
  have hk : j + 1 < R.length := by rw [ri_length] at h; exact h
  obtain ⟨_, _, h3⟩ := gp_at hg j (by omega)
  have e : (ri R)[j] = ((R[j].1 : Int), R[j].2) := by simp [ri]
  have e2 : (ri R)[j + 1] = ((R[j + 1].1 : Int), R[j + 1].2) := by simp [ri]
  rw [e, e2]
  have := h3 hk
  show (R[j].1 : Int) + (R[j].2.length : Int) < (R[j + 1].1 : Int)
  omega

theorem inverse_few (A : Option Addr) (xs : List Value) (R : List (Int × List UInt8)) (n c : Nat) (w : World) (p q : Nat → Prop) (hn : n = R.length) (hm : (n : Int) ≤ 281474976710656) (h : Rd w p A xs) (hR : RunVals w q xs R) (hT : Tab w) (hf : few R = false) :
    Calls Tryd.prog 6 #[.slice A n c] w fun e w' => e = .returned (.bool true) ∧ Below w.heap.size w w' := by
  have C1 := Lib.hid (few_any A xs R n c w p q hn hm h hR)
  rw [hf] at C1
  have C2 := Lib.hid (alive_any w hT)
  clear h hR hT hf hn
  go_enter Tryd.func6, Tryd.ntmps6
  go_wp2_with (first
    | (go_at_call 9; refine C1.out.mono ?_; rintro e w' ⟨rfl, rfl⟩)
    | (go_at_call 10; refine C2.out.mono ?_; rintro e w1 ⟨rfl, hb⟩; have HB := Lib.hid hb; clear hb))
  go_ret
  exact ⟨rfl, HB.out⟩

/-- What the loop over the runs leaves to be done. -/
def InvEnd (w w1 : World) (g : Nat) (S : Nat → Bool) (D : Nat → UInt8) (A4 : Option Addr) (c4 : Nat) (R : List (Nat × List UInt8)) (A1 : Option Addr) (c1 : Nat) (xs1 : List Value) : Prop :=
  Below w.heap.size w w1 ∧ Img w1 g S (cnt S D) D ∧ Rd w1 (fun q => q ≠ g) A4 (cl (seg S D 0 65536)) ∧ cnt S D ≤ c4 ∧ Tab w1 ∧ flat R = seg S D 0 65536 ∧ Gp R 65537 ∧ Rd w1 (fun _ => True) A1 xs1 ∧ ∃ q, RunVals w1 q xs1 (ri R)
section
variable {w w1 : World} {g : Nat} {S : Nat → Bool} {D : Nat → UInt8} {A4 : Option Addr} {c4 : Nat} {R : List (Nat × List UInt8)} {A1 : Option Addr} {c1 : Nat} {xs1 : List Value}
theorem InvEnd.of (h : InvEnd w w1 g S D A4 c4 R A1 c1 xs1) {W : World} (hb : Below w1.heap.size w1 W) :
    Calls Tryd.prog 17 #[.slice A1 R.length c1] W fun e w' => ∃ g2 S2 D2, e = .returned (.tuple #[.pointer (some ⟨g2, 0, none⟩), .int .i64 0]) ∧ seg S2 D2 0 65536 = seg S D 0 65536 ∧ Img w' g2 S2 (cnt S2 D2) D2 ∧ Below W.heap.size W w' := by
  obtain ⟨_, _, _, _, hT, hf, hg, hr, q, hv⟩ := h
  refine (of_runs hf hg (seg_le _ _ _ _) (hr.after hb) (hv.after hb) (hT.after hb)).mono ?_
  rintro e w' ⟨g2, S2, D2, h1, h2, h3, _, h4⟩
  exact ⟨g2, S2, D2, h1, h2, h3, h4⟩
theorem InvEnd.imsame (h : InvEnd w w1 g S D A4 c4 R A1 c1 xs1) {W : World} (hb : Below w1.heap.size w1 W) {g2 : Nat} {S2 : Nat → Bool} {D2 : Nat → UInt8} (he : seg S2 D2 0 65536 = seg S D 0 65536) (hI : Img W g2 S2 (cnt S2 D2) D2) :
    Calls Tryd.prog 22 #[.pointer (some ⟨g, 0, none⟩), .pointer (some ⟨g2, 0, none⟩)] W fun e w' => e = .returned (.bool true) ∧ Below W.heap.size W w' := by
  obtain ⟨_, hI1, _, _, hT, _⟩ := h
  have := imsame_any (.pointer (some ⟨g, 0, none⟩)) (.pointer (some ⟨g2, 0, none⟩)) S S2 D D2 W (.inl ⟨g, _, rfl, hI1.after hb⟩) (.inl ⟨g2, _, rfl, hI⟩) (hT.after hb)
  rw [he, decide_eq_true rfl] at this
  exact this
theorem InvEnd.same (h : InvEnd w w1 g S D A4 c4 R A1 c1 xs1) {W : World} (hb : Below w1.heap.size w1 W) {g2 : Nat} {S2 : Nat → Bool} {D2 : Nat → UInt8} (he : seg S2 D2 0 65536 = seg S D 0 65536) (hI : Img W g2 S2 (cnt S2 D2) D2) :
    Calls Tryd.prog 14 #[.pointer (some ⟨g2, 0, none⟩), .slice A4 (cnt S D) c4] W fun e w' => e = .returned (.int .i64 1) ∧ Below W.heap.size W w' := by
  obtain ⟨_, _, hr, hc, hT, _⟩ := h
  have e2 : cnt S2 D2 = cnt S D := by unfold cnt; rw [he]
  have := same_one g2 S2 D2 A4 c4 W _ (cnt S D) (by unfold cnt; rw [he]) hc (by rw [← e2]; exact hI) (hT.after hb) (by rw [he]; exact hr.after hb)
  exact this
end

set_option maxHeartbeats 2000000 in
set_option maxRecDepth 100000 in
theorem inverse_main (A : Option Addr) (xs : List Value) (R : List (Int × List UInt8)) (n c : Nat) (w : World) (p q : Nat → Prop) (hn : n = R.length) (hm : (n : Int) ≤ 281474976710656) (h : Rd w p A xs) (hR : RunVals w q xs R) (hT : Tab w) (hf : few R = true) :
    Calls Tryd.prog 6 #[.slice A n c] w fun e w' => e = .returned (.bool true) ∧ Below w.heap.size w w' := by
  have C1 := Lib.hid (few_any A xs R n c w p q hn hm h hR)
  rw [hf] at C1
  have HS := Lib.hid (few_spec hf)
  have HT := Lib.hid hT
  have HRd := Lib.hid h
  have HRv := Lib.hid hR
  have HN := Lib.hid hn
  have hn60 : (n : Int) ≤ 60 := by have := (few_spec hf).1; omega
  obtain ⟨g, hg⟩ : ∃ g, w.heap.size = g := ⟨_, rfl⟩
  have HG := Lib.hid hg
  have C3 := Lib.hid (new_any w)
  rw [hg] at C3
  clear h hR hT hf hn hg
  go_enter Tryd.func6, Tryd.ntmps6
  go_wp2_with (first
    | (go_at_call 9; refine C1.out.mono ?_; rintro e w' ⟨rfl, rfl⟩)
    | (go_at_call 11; refine C3.out.mono ?_; rintro e w1 ⟨rfl, hI, hb⟩; have HI1 : Hid (Img w1 g aS0 0 aD0) := hI; have HB1 := Lib.hid hb; clear hI hb))
  go_loopw [4, 19] (fun u v wr => ∃ k : Nat, k ≤ n ∧ v = .int .i64 k ∧ Hid (PState w wr g u)) (fun _ v _ => n - (intOf v).toNat)
  case atStart =>
    refine ⟨0, Nat.zero_le _, rfl, aS0, aD0, none, 0, by rw [cnt_none], by rw [cnt_none]; exact Nat.le_refl _, by rw [cnt_none]; exact HI1.out, ?_, by rw [HG.out]; exact HB1.out⟩
    rw [show seg aS0 aD0 0 65536 = [] from seg_none aS0 aD0 0 65536 (fun _ _ _ => rfl)]
    exact Rd.nil _ _ _
  case round =>
    obtain ⟨k, hk, rfl, hP⟩ := hrel
    obtain ⟨S, D, A4, c4, rfl, hc4, hI, hRd, hb⟩ := hP.out
    by_cases hlt : k < n
    · have hkr : k < R.length := by rw [← HN.out]; exact hlt
      obtain ⟨b, o, B, cb, rfl, _, hd2, hd3, hd1⟩ := HRd.out.run HRv.out hkr
      have hc1 := (hb.cell (p := ⟨b, o + k * 2, none⟩) (lt_of_cell hd2)).trans hd2
      have hc2 := (hb.cell (p := ⟨b, o + k * 2 + 1, none⟩) (lt_of_cell hd3)).trans hd3
      clear hd2 hd3
      have hrl := HS.out.2 _ (List.getElem_mem hkr)
      obtain ⟨r, hr⟩ : ∃ r, R[k] = r := ⟨_, rfl⟩
      simp only [hr] at hc1 hc2 hd1 hrl
      have HD := Lib.hid hd1
      have HRL := Lib.hid hrl
      have HB := Lib.hid hb
      have HI := Lib.hid hI
      have HC := Lib.hid hRd
      have HC4 := Lib.hid hc4
      clear hr hd1 hrl hb hI hRd hc4 hP
      have HTr := Lib.hid (HT.out.after HB.out)
      have HAL : Hid (Below wr.heap.size wr (wr.alloc (.cells #[.int .i64 r.1, .slice B r.2.length cb] 30))) := (Below.refl _ _).alloc (Nat.le_refl _) _
      have hca : (wr.alloc (.cells #[.int .i64 r.1, .slice B r.2.length cb] 30)).cell? ⟨wr.heap.size, 0, none⟩ = some (.int .i64 r.1) ∧ (wr.alloc (.cells #[.int .i64 r.1, .slice B r.2.length cb] 30)).cell? ⟨wr.heap.size, 1, none⟩ = some (.slice B r.2.length cb) := new_two (Below.refl _ _)
      have HNE : Hid (g < wr.heap.size) := HI.out.lt
      have HK : Hid (∀ w2 o v, (wr.alloc (.cells #[.int .i64 r.1, .slice B r.2.length cb] 30)).grownBy w2 (some g) → (wr.alloc (.cells #[.int .i64 r.1, .slice B r.2.length cb] 30)).cell? ⟨wr.heap.size, o, none⟩ = some v → w2.cell? ⟨wr.heap.size, o, none⟩ = some v) := fun w2 o v hg hv =>
        (World.cell?_of_block (w := wr.alloc (.cells #[.int .i64 r.1, .slice B r.2.length cb] 30)) (a := ⟨wr.heap.size, o, none⟩) (hg.block _ (by simp) (fun e => by have e2 : wr.heap.size = g := Option.some.inj e; have := HNE.out; omega))).trans hv
      go_wp2_with (first
        | (go_at_call 13; refine (put_all g S D r.1 B r.2 cb _ q (by have := HRL.out; omega) (HI.out.after HAL.out) (HTr.out.after HAL.out) (HD.out.after (HB.out.alloc HB.out.size _))).mono ?_; rintro e w2 ⟨rfl, k1, k2⟩; have hcx := HK.out _ _ _ k2 hca.1; have hcy := HK.out _ _ _ k2 hca.2; have M1 := Lib.hid k1; have M2 := Lib.hid ((HC.out.after HAL.out).grown k2 (fun i _ hi => fun e => hi (Option.some.inj e))); have M4 := Lib.hid (below_img HB.out HB.out.size k2 (by have := HG.out; omega)); have M5 := Lib.hid k2; clear k1 k2)
        | (go_at_call 12; refine (rput_all g S D r.1 A4 c4 B r.2 cb w2 q (by have := HRL.out; omega) M1.out.lt HC4.out M2.out (HD.out.after M4.out)).mono ?_; rintro e w3 ⟨A2, c2, rfl, k1, k2, k3⟩; have K1 := Lib.hid k1; have K2 := Lib.hid k2; have K3 := Lib.hid k3; clear k1 k2 k3))
      go_roundw
      case rel => exact ⟨k + 1, by omega, by go_num, _, _, A2, c2, rfl, K1.out, M1.out.after K3.out, K2.out, M4.out.trans (K3.out.mono M4.out.size)⟩
      case measure => simp [intOf]; omega
    · obtain rfl : k = n := by omega
      have HTr := HT.out.after hb
      have C21 := Lib.hid (runs_any g _ S D wr hI HTr)
      have HE0 : Hid (∀ w1 R1 A1 c1 xs1, flat R1 = seg S D 0 65536 → Gp R1 65537 → w1.ownsRow wr.heap.size 39 2 (.slice A1 R1.length c1) R1.length xs1 → RunVals w1 (fun q => wr.heap.size ≤ q) xs1 (ri R1) → Below wr.heap.size wr w1 → InvEnd w w1 g S D A4 c4 R1 A1 c1 xs1) := fun w1 R1 A1 c1 xs1 r1 r2 r3 r4 r5 =>
        ⟨hb.trans (r5.mono hb.size), hI.after r5, hRd.after r5, hc4, HTr.after r5, r1, r2, Rd.of_own r3 (fun _ _ _ => trivial), _, r4⟩
      clear hP hI hRd hb hc4 HTr HRd HRv HT HS C1 C3 hlt hk
      have dk : decide ((k : Int) < (k : Int)) = false := by simp
      go_wp2_with (go_at_call 21; refine C21.out.mono ?_; rintro e w1 ⟨v1, R1, xs1, rfl, r1, r2, r3, r4, r5⟩; obtain ⟨A1, c1, rfl, _⟩ := own_form r3; have HE := Lib.hid (HE0.out _ _ _ _ _ r1 r2 r3 r4 r5); clear r1 r2 r3 r4 r5 C21 HE0)
      obtain ⟨N, hN⟩ : ∃ N, R1.length = N := ⟨_, rfl⟩
      have HN1 : Hid ((ri R1).length = N) := by rw [Hid, ri_length]; exact hN
      have hN2 : (N : Int) ≤ 65536 := by
        obtain ⟨_, _, _, _, _, hf, hg, _⟩ := HE.out
        have h1 := gp_len hg
        have h2 := seg_le S D 0 65536
        rw [hf] at h1
        omega
      have C17 : Hid (∀ W, Below w1.heap.size w1 W → Calls Tryd.prog 17 #[.slice A1 N c1] W fun e w' => ∃ g2 S2 D2, e = .returned (.tuple #[.pointer (some ⟨g2, 0, none⟩), .int .i64 0]) ∧ seg S2 D2 0 65536 = seg S D 0 65536 ∧ Img w' g2 S2 (cnt S2 D2) D2 ∧ Below W.heap.size W w') := fun W hb => by
        rw [← hN]; exact HE.out.of hb
      have C10 : Hid (∀ W, Below w1.heap.size w1 W → Calls Tryd.prog 10 #[] W fun e w' => e = .returned (.bool true) ∧ Below W.heap.size W w') := fun W hb => alive_any W (HE.out.2.2.2.2.1.after hb)
      have HBE : Hid (Below w.heap.size w w1) := HE.out.1
      have HG1 : Hid (Gp R1 65537) := HE.out.2.2.2.2.2.2.1
      have HR1 : Hid (Rd w1 (fun _ => True) A1 xs1) := HE.out.2.2.2.2.2.2.2.1
      obtain ⟨q1, hv1⟩ := HE.out.2.2.2.2.2.2.2.2
      have HV1 := Lib.hid hv1
      clear hv1
      rw [hN]
      clear hN hn60 HN HG
      go_loopw [43] (fun v wr' => ∃ k : Nat, k ≤ N ∧ v = .int .i64 k ∧ Hid (Below w1.heap.size w1 wr')) (fun v _ => N - (intOf v).toNat)
      case atStart => exact ⟨0, Nat.zero_le _, rfl, Below.refl _ _⟩
      case round =>
        rename_i wz
        obtain ⟨k, hk, rfl, hb⟩ := hrel
        by_cases hlt : k < N
        · have hkr : k < (ri R1).length := by rw [HN1.out]; exact hlt
          obtain ⟨b, o, B, cb, rfl, _, hc1, hc2, hd1⟩ := (HR1.out.after hb.out).run (HV1.out.after hb.out) hkr
          obtain ⟨f1, f2, f3⟩ := gp_ri HG1.out k hkr
          have f4 : ∀ j (hj : j < (ri R1).length) (h : j + 1 = k), (ri R1)[j].1 + (ri R1)[j].2.length < (ri R1)[k].1 := fun j hj h => by subst h; exact gp_ri2 HG1.out j hj hkr
          obtain ⟨r, hr⟩ : ∃ r, (ri R1)[k] = r := ⟨_, rfl⟩
          simp only [hr] at hc1 hc2 hd1 f1 f2 f3 f4
          have d0 : (((r.2.length : Nat) : Int) == 0) = false := by rw [beq_eq_false_iff_ne]; omega
          have b1 : (0 : Int) ≤ (k : Int) := by omega
          have b2 : (k : Int) < (N : Int) := by omega
          by_cases h0 : k = 0
          · have d1 : decide (0 < k) = false := by rw [decide_eq_false_iff_not]; omega
            clear hd1 hr f1 f2 f3 f4 h0
            go_wp2
            go_quiet (fail)
            go_wp2
            go_roundw
            case rel => exact ⟨k + 1, by omega, by go_num, below_drewN (hb.out.alloc hb.out.size _) _⟩
            case measure => simp [intOf]; omega
          · obtain ⟨j, hj⟩ : ∃ j, k = j + 1 := ⟨k - 1, by omega⟩
            have hjr : j < (ri R1).length := by omega
            obtain ⟨b', o', B', cb', e1, _, hp1, hp2, hp3⟩ := (HR1.out.after hb.out).run (HV1.out.after hb.out) hjr
            injection e1 with e1
            injection e1 with e1 e2
            subst e1; subst e2
            obtain ⟨g1, g2, g3⟩ := gp_ri HG1.out j hjr
            have f5 := f4 j hjr hj.symm
            obtain ⟨r', hr'⟩ : ∃ r, (ri R1)[j] = r := ⟨_, rfl⟩
            simp only [hr'] at hp1 hp2 g1 g2 g3 f5
            have k1 := fun O => keep_alloc0 O hp1
            have k2 := fun O => keep_alloc0 O hp2
            have d1 : decide (0 < k) = true := by rw [decide_eq_true_iff]; omega
            have b3 : IntKind.i64.wrap ((k : Int) - 1) = (j : Int) := by rw [IntWalk.i64_in _ (by omega)]; omega
            have b4 : (j : Int) < (N : Int) := by omega
            have b5 : IntKind.i64.wrap (r'.1 + (r'.2.length : Int)) = r'.1 + (r'.2.length : Int) := by rw [IntWalk.i64_in _ (by omega)]
            have d2 : decide (r.1 ≤ r'.1 + (r'.2.length : Int)) = false := by rw [decide_eq_false_iff_not]; omega
            clear hd1 hr f1 f2 f3 f4 f5 h0 g1 g2 g3 hr' hp1 hp2 hp3 hj hjr
            go_wp2
            go_quiet (fail)
            go_wp2
            go_roundw
            case rel => exact ⟨k + 1, by omega, by go_num, below_drewN (hb.out.alloc hb.out.size _) _⟩
            case measure => simp [intOf]; omega
        · have HX := hb
          clear hb
          go_wp2_with (first
            | (go_at_call 17; refine (C17.out _ HX.out).mono ?_; rintro e w3 ⟨g2, S2, D2, rfl, he, hI2, hb3⟩; have HE2 := Lib.hid he; have HI3 := Lib.hid hI2; have HB3 := Lib.hid (HX.out.trans (hb3.mono HX.out.size)); clear he hI2 hb3)
            | (go_at_call 10; refine (C10.out _ HB3.out).mono ?_; rintro e w4 ⟨rfl, hb4⟩; have HI4 := Lib.hid (HI3.out.after hb4); have HB4 := Lib.hid (HB3.out.trans (hb4.mono HB3.out.size)); clear hb4)
            | (go_at_call 22; refine (HE.out.imsame HB4.out HE2.out HI4.out).mono ?_; rintro e w5 ⟨rfl, hb5⟩; have HI5 := Lib.hid (HI4.out.after hb5); have HB5 := Lib.hid (HB4.out.trans (hb5.mono HB4.out.size)); clear hb5)
            | (go_at_call 14; refine (HE.out.same HB5.out HE2.out HI5.out).mono ?_; rintro e w6 ⟨rfl, hb6⟩; have HB6 := Lib.hid (HB5.out.trans (hb6.mono HB5.out.size)); clear hb6))
          go_ret
          exact ⟨rfl, HBE.out.trans (HB6.out.mono HBE.out.size)⟩
theorem inverse_any {A : Option Addr} {c : Nat} {xs : List Value} {R : List (Int × List UInt8)} {W : World} (hm : (R.length : Int) ≤ 281474976710656) (h : Rd W (fun _ => True) A xs) (hR : RunVals W (fun _ => True) xs R) (hT : Tab W) :
    Calls Tryd.prog 6 #[.slice A R.length c] W fun e W' => e = .returned (.bool true) ∧ Below W.heap.size W W' := by
  cases hf : few R
  · exact inverse_few A xs R R.length c W _ _ rfl hm h hR hT hf
  · exact inverse_main A xs R R.length c W _ _ rfl hm h hR hT hf
end Go.Proofs.YtmkgppbnhkihjaaDoor
