/- The walks of Len, of the statements' Same and of the reference's Few. -/
import Derived.Test.YtmkgppbnhkihjaaDoorRuns
import Derived.Test.YtmkgppbnhkihjaaDoorRruns
namespace Go.Proofs.YtmkgppbnhkihjaaDoor
open Go.RowKit Go.Shelf

theorem len_any (g n : Nat) (S : Nat → Bool) (D : Nat → UInt8) (w : World) (hI : Img w g S n D) : Calls Tryd.prog 23 #[.pointer (some ⟨g, 0, none⟩)] w fun e w' => e = .returned (.int .i64 n) ∧ w = w' := by
  have hc := hI.count
  clear hI
  go_enter Tryd.func23, Tryd.ntmps23
  go_wp2
  go_ret
  exact ⟨rfl, rfl⟩

theorem flat_len {R : List (Nat × List UInt8)} {r : Nat × List UInt8} (h : r ∈ R) : r.2.length ≤ (flat R).length := by
  induction R with
  | nil => cases h
  | cons x R ih =>
    have e : (flat (x :: R)).length = x.2.length + (flat R).length := by simp [flat, nw_length]
    rw [e]
    rcases List.mem_cons.1 h with rfl | h
    · omega
    · have := ih h; omega
theorem ri_len {R : List (Nat × List UInt8)} {k : Nat} (h : k < (ri R).length) : (ri R)[k].2.length ≤ (flat R).length := by
  have hk : k < R.length := by rw [ri_length] at h; exact h
  have e : (ri R)[k].2 = R[k].2 := by simp [ri]
  rw [e]
  exact flat_len (List.getElem_mem hk)
theorem equal_true (A A' : Option Addr) (l : List UInt8) (c c' : Nat) (w : World) (p p' : Nat → Prop) (hm : (l.length : Int) ≤ 9223372036854775807) (h : Rd w p A (bs l)) (h' : Rd w p' A' (bs l)) :
    Calls Tryd.prog 26 #[.slice A l.length c, .slice A' l.length c'] w fun e w' => e = .returned (.bool true) ∧ ∃ m, w' = w.drewN m :=
  (equal_any A A' l l _ _ c c' w p p' rfl rfl hm h h').mono fun e w' ⟨he, hw⟩ => ⟨by rw [he]; simp, hw⟩

set_option maxHeartbeats 1000000 in
set_option maxRecDepth 100000 in
/-- Same of the statements: the image and the cells of the reference are one. -/
theorem same_one (g : Nat) (S : Nat → Bool) (D : Nat → UInt8) (A : Option Addr) (c : Nat) (w : World) (p : Nat → Prop) (n : Nat) (hn : n = (seg S D 0 65536).length) (hc : n ≤ c) (hI : Img w g S n D) (hT : Tab w) (hR : Rd w p A (cl (seg S D 0 65536))) :
    Calls Tryd.prog 14 #[.pointer (some ⟨g, 0, none⟩), .slice A n c] w fun e w' => e = .returned (.int .i64 1) ∧ Below w.heap.size w w' := by
  have hle := seg_le S D 0 65536
  have hs := seg_sorted S D 0 65536
  have hm := fun x hx => (seg_mem S D 0 65536 x hx).2.1
  obtain ⟨L, hL⟩ : ∃ L, seg S D 0 65536 = L := ⟨_, rfl⟩
  rw [hL] at hn hR hle hs hm
  have C1 := Lib.hid (runs_any g n S D w hI hT)
  have HI := Lib.hid hI
  have HT := Lib.hid hT
  have HR := Lib.hid hR
  have HL := Lib.hid hL
  have C2 : Hid (∀ W, Below w.heap.size w W → Calls Tryd.prog 30 #[.slice A n c] W (RrPost W L)) := fun W hb =>
    rruns_core A L n c W p hn (by omega) hc (hR.after hb) hs (fun x hx => by have := hm x hx; omega)
  have hnb : (n : Int) ≤ 65536 := by omega
  clear hI hT hR hL hn hs hm hle hc
  have e1 : (((n : Nat) : Int) != (n : Int)) = false := by simp
  go_enter Tryd.func14, Tryd.ntmps14
  go_wp2_with (first
    | (go_at_call 21; refine C1.out.mono ?_; rintro e w1 ⟨v1, R, xs1, rfl, r1, r2, r3, r4, r5⟩; obtain ⟨A1, c1, rfl, _⟩ := own_form r3; have Q1 := Lib.hid r1; have Q2 := Lib.hid r2; have Q3 := Lib.hid r3; have Q4 := Lib.hid r4; have Q5 := Lib.hid r5; clear r1 r2 r3 r4 r5)
    | (go_at_call 30; refine (C2.out _ Q5.out).mono ?_; rintro e w2 ⟨v2, R', xs2, rfl, r1, r2, r3, r4, r5⟩; obtain rfl : R = R' := runs_eq R R' _ _ Q2.out r2 (Q1.out.trans (HL.out.trans r1.symm)); obtain ⟨A2, c2, rfl, _⟩ := own_form r3; have T3 := Lib.hid r3; have T4 := Lib.hid r4; have T5 := Lib.hid r5; have T6 := Lib.hid (Q5.out.trans (r5.mono Q5.out.size)); have e2 : (((R.length : Nat) : Int) != (R.length : Int)) = false := bne_self_eq_false _; clear r1 r2 r3 r4 r5)
    | (go_at_call 23; refine (len_any g n S D _ (HI.out.after T6.out)).mono ?_; rintro e w' ⟨rfl, rfl⟩))
  have G1 : Hid (∀ W, Below w2.heap.size w2 W → Rd W (fun _ => True) A1 xs1 ∧ RunVals W (fun _ => True) xs1 (ri R)) := fun W hb => by
    have hb1 : Below w1.heap.size w1 W := T5.out.trans (hb.mono T5.out.size)
    exact ⟨(Rd.of_own Q3.out (fun _ _ _ => trivial)).after hb1, (Q4.out.mono (fun _ _ _ => trivial)).after hb1⟩
  have G2 : Hid (∀ W, Below w2.heap.size w2 W → Rd W (fun _ => True) A2 xs2 ∧ RunVals W (fun _ => True) xs2 (ri R)) := fun W hb =>
    ⟨(Rd.of_own T3.out (fun _ _ _ => trivial)).after hb, (T4.out.mono (fun _ _ _ => trivial)).after hb⟩
  have HFL : Hid ((flat R).length ≤ 65536) := by rw [Hid, Q1.out]; exact seg_le S D 0 65536
  obtain ⟨N, hN⟩ : ∃ N, R.length = N := ⟨_, rfl⟩
  have hNr : (ri R).length = N := by rw [ri_length]; exact hN
  have hN2 : (N : Int) ≤ 9223372036854775807 := by
    obtain ⟨_, _, hv, _, _⟩ := own_form Q3.out
    have h1 := Q3.out.2
    rcases h1 with ⟨h2, _⟩ | ⟨_, cap, _, _, _, _, h3, h4, _⟩
    · injection h2 with _ h2 _; omega
    · simp only [maxLen] at h4; omega
  simp only [hN] at e2
  have HN := Lib.hid hNr
  have e3 := hN
  clear C1 C2 HI HT HR HL Q1 Q2 Q3 Q4 T3 T4 hnb e1 e2 hNr
  rw [hN]
  clear e3 hN
  go_loopw [27] (fun v wr => ∃ k : Nat, k ≤ N ∧ v = .int .i64 k ∧ Hid (Below w2.heap.size w2 wr)) (fun v _ => N - (intOf v).toNat)
  case atStart => exact ⟨0, Nat.zero_le _, rfl, Below.refl _ _⟩
  case round =>
    obtain ⟨k, hk, rfl, hb⟩ := hrel
    by_cases hlt : k < N
    · have hkr : k < (ri R).length := by rw [HN.out]; exact hlt
      obtain ⟨b, o, B, cb, rfl, _, hc1, hc2, hd1⟩ := (G1.out _ hb.out).1.run (G1.out _ hb.out).2 hkr
      obtain ⟨b', o', B', cb', rfl, _, hd2, hd3, hd4⟩ := (G2.out _ hb.out).1.run (G2.out _ hb.out).2 hkr
      have hrl := ri_len hkr
      obtain ⟨r, hr⟩ : ∃ r, (ri R)[k] = r := ⟨_, rfl⟩
      simp only [hr] at hc1 hc2 hd1 hd2 hd3 hd4 hrl
      have CE : Hid (∀ W, Below wr.heap.size wr W → Calls Tryd.prog 26 #[.slice B r.2.length cb, .slice B' r.2.length cb'] W fun e w' => e = .returned (.bool true) ∧ ∃ m, w' = W.drewN m) := fun W hbW =>
        equal_true B B' r.2 cb cb' W _ _ (by have := HFL.out; omega) (hd1.after hbW) (hd4.after hbW)
      have k2 := fun O => keep_alloc0 O hd2
      have k3 := fun O => keep_alloc0 O hd3
      have k4 : (r.1 != r.1) = false := bne_self_eq_false _
      clear hd1 hd4 hrl hr hd2 hd3
      have b1 : (0 : Int) ≤ (k : Int) := by omega
      have b2 : (k : Int) < (N : Int) := by omega
      go_wp2
      go_quiet ((go_at_call 26; exact Calls.quiet_of (CE.out _ (below_drewN ((Below.refl _ _).alloc (Nat.le_refl _) _) _))))
      go_wp2
      exact ⟨⟨k + 1, by omega, by go_num, below_drewN (hb.out.alloc hb.out.size _) _⟩, by simp [intOf]; omega⟩
    · go_wp2
      go_ret
      exact ⟨rfl, T6.out.trans (hb.out.mono T6.out.size)⟩
end Go.Proofs.YtmkgppbnhkihjaaDoor
