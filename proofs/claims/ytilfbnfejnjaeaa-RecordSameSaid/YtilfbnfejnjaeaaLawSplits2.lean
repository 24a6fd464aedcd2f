/- The walk of the statement RecordSplits: its loop. -/
import Derived.Test.YtilfbnfejnjaeaaLawSplits
import Derived.Deep.RegionHeld3
namespace Go.Proofs.Ytilfbnfejnjaeaa
open Go.RowKit Go.Shelf

/-- Record k of a row of records. -/
theorem rec_at {D : Value → List UInt8 → Prop} {w : World} {n0 : Nat} {e : TypeId} {v : Value} {xs : List Value} {R : List (Int × List UInt8)} {k : Nat} (hown : w.ownsRow n0 e 3 v R.length xs) (hv : RecVals D xs R) (hk : k < R.length) :
    ∃ g A c cv, v = .slice (some ⟨g, 0, none⟩) R.length cv ∧ g < w.heap.size ∧ w.cell? ⟨g, k * 3, none⟩ = some (.int .i64 0) ∧ w.cell? ⟨g, k * 3 + 1, none⟩ = some (.int .i64 R[k].1) ∧ w.cell? ⟨g, k * 3 + 2, none⟩ = some (.slice A R[k].2.length c) ∧ D (.slice A R[k].2.length c) R[k].2 := by
  obtain ⟨h1, h2, A, c, h3, h4⟩ := hv.2 k hk
  rcases hown.2 with ⟨_, h0⟩ | ⟨g, cv, cur, hve, _, hgb, _⟩
  · omega
  · subst hve
    have hl := hown.1
    refine ⟨g, A, c, cv, rfl, (hown.lt g rfl).2, ?_, ?_, ?_, h4⟩
    · rw [hown.cellAt _ (by omega)]; exact h1
    · rw [hown.cellAt _ (by omega)]; exact h2
    · rw [hown.cellAt _ (by omega)]; exact h3

theorem flatTo_le (R : List (Int × List UInt8)) (N : Nat) (h : ∀ r ∈ R, r.2.length ≤ N) : ∀ k, (flatTo R k).length ≤ k * N
  | 0 => by simp [flatTo]
  | k + 1 => by
    by_cases hk : k < R.length
    · rw [flatTo_succ R k hk, List.length_append, Nat.succ_mul]
      have := flatTo_le R N h k
      have := h _ (List.getElem_mem hk)
      omega
    · have e : flatTo R (k + 1) = flatTo R k := by
        unfold flatTo
        rw [List.take_of_length_le (by omega), List.take_of_length_le (by omega)]
      rw [e, Nat.succ_mul]
      have := flatTo_le R N h k
      omega

/-- The cells that the two comparisons of a round read: of the round's own record and of the reference's. -/
def SS (B g q : Nat) (ad : Int) (s3 s4 : Value) (w' : World) : Prop :=
  w'.cell? ⟨B, 0, none⟩ = some (.int .i64 0) ∧ w'.cell? ⟨B, 1, none⟩ = some (.int .i64 ad) ∧ w'.cell? ⟨B, 2, none⟩ = some s3 ∧
  w'.cell? ⟨g, q, none⟩ = some (.int .i64 0) ∧ w'.cell? ⟨g, q + 1, none⟩ = some (.int .i64 ad) ∧ w'.cell? ⟨g, q + 2, none⟩ = some s4
theorem SS.after {B g q : Nat} {ad : Int} {s3 s4 : Value} {W w' : World} (h : SS B g q ad s3 s4 W) (hb : Below W.heap.size W w') : SS B g q ad s3 s4 w' := by
  obtain ⟨h1, h2, h3, h4, h5, h6⟩ := h
  exact ⟨(hb.cell (lt_of_cell h1)).trans h1, (hb.cell (lt_of_cell h2)).trans h2, (hb.cell (lt_of_cell h3)).trans h3, (hb.cell (lt_of_cell h4)).trans h4, (hb.cell (lt_of_cell h5)).trans h5, (hb.cell (lt_of_cell h6)).trans h6⟩
theorem SS.heap {B g q : Nat} {ad : Int} {s3 s4 : Value} {W w' : World} (h : SS B g q ad s3 s4 W) (hh : w'.heap = W.heap) : SS B g q ad s3 s4 w' := by
  have e : ∀ p, w'.cell? p = W.cell? p := fun p => World.cell?_of_block (by rw [hh])
  simpa only [SS, e] using h
theorem Rd.heap {w w' : World} {p : Nat → Prop} {A : Option Addr} {xs : List Value} (h : Rd w p A xs) (hh : w'.heap = w.heap) : Rd w' p A xs := h.keep fun i _ _ => by rw [hh]
theorem below_dr {W w' : World} {n : Nat} (h : Below (W.drewN n).heap.size (W.drewN n) w') : Below W.heap.size W w' := (below_of_drewN _ _ _).trans h
theorem below_dr1 {W w' : World} (h : Below W.drew.heap.size W.drew w') : Below W.heap.size W w' := ((Below.refl W.heap.size W).drew).trans h

set_option maxRecDepth 100000 in
set_option maxHeartbeats 2000000 in
theorem splits_short (a sz : Int) (A : Option Addr) (l : List UInt8) (c : Nat) (w : World) (p : Nat → Prop) (hl : (l.length : Int) ≤ 2000) (hc : l.length ≤ c) (h : Rd w p A (bs l)) :
    Calls Try.prog 7 #[.int .i64 a, .int .i64 sz, .slice A l.length c] w fun e w' => e = .returned (.bool true) ∧ Below w.heap.size w w' := by
  obtain ⟨f1, f2, f3⟩ := splitR_facts a sz l
  have C1 : Hid (∀ W : World, Below w.heap.size w W → _) := fun W hb => split_any a sz A l c W p hc (h.after hb)
  have C2 : Hid (∀ W : World, Below w.heap.size w W → _) := fun W hb => rsplit_any a sz A l c W p hc (h.after hb)
  generalize splitR a sz l = R at *
  obtain ⟨n, hn⟩ : ∃ n, R.length = n := ⟨_, rfl⟩
  have HR := Lib.hid (show (R.length = 0 ∨ flatTo R R.length = l) ∧ R.length ≤ l.length ∧ (∀ r ∈ R, r.2.length ≤ l.length) ∧ Rd w p A (bs l) from ⟨f1, f2, f3, h⟩)
  have CA : Hid (∀ W : World, Calls Try.prog 13 #[] W fun e w' => e = .returned (.bool true) ∧ Below W.heap.size W w') := fun W => alive3_any W
  clear f1 f2 f3 h
  go_enter Try.func7, Try.ntmps7
  go_wp2_with (first
    | (go_at_call 26; refine (C1.out _ (Below.refl _ _)).mono ?_; rintro e w1 ⟨v, xs, rfl, hown, hvals, hb1⟩; obtain ⟨A1, c1, rfl, hcc1, _⟩ := own_form hown)
    | (go_at_call 27; refine (C2.out _ hb1).mono ?_; rintro e w2 ⟨v', xs', rfl, hown', hvals', hb2⟩; obtain ⟨A2, c2, rfl, hcc2, _⟩ := own_form hown'))
  go_loopw [9, 31] (fun u v wr => ∃ k : Nat, k ≤ R.length ∧ v = .int .i64 (k : Int) ∧ wr.ownsRow w2.heap.size 5 1 u (flatTo R k).length (bs (flatTo R k)) ∧ Below w2.heap.size w2 wr)
    (fun _ v _ => R.length - (intOf v).toNat)
  case atStart => exact ⟨0, Nat.zero_le _, rfl, World.ownsRow_nil _ _ _ _, Below.refl _ _⟩
  case round =>
    obtain ⟨k, hk, rfl, hall, hbr⟩ := hrel
    by_cases hlt : k < R.length
    · obtain ⟨g1, A3, c3, cv3, e1, hg1, l0, l1, l2, hD⟩ := rec_at hown hvals hlt
      obtain ⟨g2, A4, c4, cv4, e2, hg2, m0, m1, m2, hD'⟩ := rec_at hown' hvals' hlt
      have hfl := flatTo_le R l.length HR.out.2.2.1 k
      have hfl2 : k * l.length ≤ 2000 * 2000 := Nat.mul_le_mul (by have := HR.out.2.1; omega) (by omega)
      have hdl := HR.out.2.2.1 _ (List.getElem_mem hlt)
      have hk2 : (k : Int) < 2000 := by have := HR.out.2.1; omega
      obtain ⟨d, hd⟩ : ∃ d, R[k].2 = d := ⟨_, rfl⟩
      obtain ⟨ad, had⟩ : ∃ z, R[k].1 = z := ⟨_, rfl⟩
      have BB : Below w1.heap.size w1 wr := hb2.trans (hbr.mono hb2.size)
      have HF := Lib.hid (flatTo_succ R k hlt)
      rw [hd] at l2 m2 hD hD' HF hdl
      rw [had] at l1 m1
      have r3 : Rd w1 (fun _ => True) A3 (bs d) := Rd.of_own hD (fun _ _ _ => trivial)
      have r4 : Rd w2 (fun i => True) A4 (bs d) := by
        obtain ⟨A5, c5, e5, hr⟩ := hD'
        injection e5 with e6
        subst e6
        exact hr.of_imp (fun _ _ => trivial)
      have q3 := r3.after BB
      have q4 := r4.after hbr
      obtain ⟨m, hm⟩ : ∃ m, d.length = m := ⟨_, rfl⟩
      obtain ⟨f, hf⟩ : ∃ f, flatTo R k = f := ⟨_, rfl⟩
      obtain ⟨Z, hZ⟩ : ∃ f, flatTo R (k + 1) = f := ⟨_, rfl⟩
      rw [hf, hZ] at HF
      have CR : Hid (∀ W : World, W.heap = (wr.alloc (.cells #[.int .i64 0, .int .i64 ad, .slice A3 m c3] 25)).heap → Calls Try.prog 16 #[.agg #[.int .i64 0, .int .i64 ad, .slice A3 m c3], .agg #[.int .i64 0, .int .i64 ad, .slice A4 m c4]] W fun e w' => e = .returned (.bool true) ∧ Below W.heap.size W w') := fun W hb => by
        have hA : Below wr.heap.size wr (wr.alloc (.cells #[.int .i64 0, .int .i64 ad, .slice A3 m c3] 25)) := (Below.refl _ _).alloc (Nat.le_refl _) _
        have := rsame_any 0 ad 0 ad A3 A4 d d c3 c4 W _ _ ((q3.after hA).heap hb) ((q4.after hA).heap hb)
        rw [hm] at this
        rwa [decide_eq_true ⟨rfl, rfl, rfl⟩] at this
      have CO : Hid (∀ W w7 : World, W.heap = w7.heap → Below wr.heap.size wr w7 → Calls Try.prog 24 #[.agg #[.int .i64 0, .int .i64 ad, .slice A3 m c3], .agg #[.int .i64 0, .int .i64 ad, .slice A4 m c4]] W fun e w' => e = .returned (.bool true) ∧ Below W.heap.size W w') := fun W w7 hh hb => by
        have := osame_any 0 ad 0 ad A3 A4 d d c3 c4 W _ _ (by omega) ((q3.after hb).heap hh) ((q4.after hb).heap hh)
        rw [hm] at this
        rwa [decide_eq_true ⟨rfl, rfl, rfl⟩] at this
      injection e1 with ea1 _ eb1
      subst ea1; subst eb1
      injection e2 with ea2 _ eb2
      subst ea2; subst eb2
      have L0 := (BB.cell (p := ⟨g1, k * 3, none⟩) hg1).trans l0
      have L1 := (BB.cell (p := ⟨g1, k * 3 + 1, none⟩) hg1).trans l1
      have L2 := (BB.cell (p := ⟨g1, k * 3 + 2, none⟩) hg1).trans l2
      rw [hm] at L2 m2 hdl
      have HS : Hid (SS wr.heap.size g2 (k * 3) ad (.slice A3 m c3) (.slice A4 m c4) (wr.alloc (.cells #[.int .i64 0, .int .i64 ad, .slice A3 m c3] 25))) := by
        have M0 := (hbr.cell (p := ⟨g2, k * 3, none⟩) hg2).trans m0
        have M1 := (hbr.cell (p := ⟨g2, k * 3 + 1, none⟩) hg2).trans m1
        have M2 := (hbr.cell (p := ⟨g2, k * 3 + 2, none⟩) hg2).trans m2
        obtain ⟨b0, b1, b2, _⟩ := box_three (Below.refl _ (wr.alloc (.cells #[.int .i64 0, .int .i64 ad, .slice A3 m c3] 25)))
        exact ⟨b0, b1, b2, keep_alloc0 _ M0, keep_alloc0 _ M1, keep_alloc0 _ M2⟩
      have HQ := Lib.hid (show Rd wr (fun _ => True) A3 (bs d) ∧ Below w2.heap.size w2 wr ∧ d.length = m ∧ f.length ≤ 2000 * 2000 ∧ flatTo R k = f ∧ flatTo R (k + 1) = Z from ⟨q3, hbr, hm, by rw [← hf]; omega, hf, hZ⟩)
      rw [hf] at hall hfl
      have HALL := Lib.hid hall
      clear l0 l1 l2 m0 m1 m2 hD hD' r3 r4 q3 q4 hd had hm hfl hfl2 hf hZ hbr BB hall
      obtain ⟨S0, S1, S2, S3, S4, S5⟩ := HS.out
      go_wp2
      go_region_held3 (fun w' => w'.cell? ⟨wr.heap.size, 0, none⟩ = some (.int .i64 0) ∧ w'.cell? ⟨wr.heap.size, 1, none⟩ = some (.int .i64 ad) ∧ w'.cell? ⟨wr.heap.size, 2, none⟩ = some (.slice A3 m c3) ∧ w'.cell? ⟨g2, k * 3, none⟩ = some (.int .i64 0) ∧ w'.cell? ⟨g2, k * 3 + 1, none⟩ = some (.int .i64 ad) ∧ w'.cell? ⟨g2, k * 3 + 2, none⟩ = some (.slice A4 m c4)) (first | assumption | go_keep)
        (first
          | (go_at_call 16; refine (CR.out _ (by rfl)).mono ?_; rintro e w7 ⟨rfl, hb7⟩; have Hb7 := Lib.hid hb7; have HS7' := (HS.out.heap (by rfl)).after hb7; have HS7 := Lib.hid HS7'; obtain ⟨t0, t1, t2, t3, t4, t5⟩ := HS7'; clear hb7)
          | (go_at_call 24; refine (CO.out _ w7 (by rfl) (below_box (below_dr1 Hb7.out))).mono ?_; rintro e w8 ⟨rfl, hb8⟩; have Hb8 := Lib.hid hb8; have HS8' := HS7.out.after hb8; have HS8 := Lib.hid HS8'; obtain ⟨v0, v1, v2, v3, v4, v5⟩ := HS8'; clear hb8))
      have B78 : Below wr.heap.size wr w8 := by
        have h7 := below_box (below_dr1 Hb7.out)
        exact h7.trans (Hb8.out.mono h7.size)
      have HW := Lib.hid (show w8.ownsRow w2.heap.size 5 1 u9 f.length (bs f) ∧ Rd w8 (fun _ => True) A3 (bs d) ∧ Below w2.heap.size w2 w8 ∧ (bs d).length = m * 1 ∧ f.length + m ≤ maxLen ∧ (f.length + m) * 1 ≤ 140737488355328 ∧ w2.heap.size ≤ w8.heap.size from
        ⟨own_over HALL.out B78, HQ.out.1.after B78, HQ.out.2.1.trans (B78.mono HQ.out.2.1.size), by rw [bs_length, HQ.out.2.2.1, Nat.mul_one], by have := HQ.out.2.2.2.1; unfold maxLen; omega, by have := HQ.out.2.2.2.1; omega, Nat.le_trans HQ.out.2.1.size B78.size⟩)
      clear B78 t0 t1 t2 t3 t4 t5 S0 S1 S2 S3 S4 S5
      go_wp2_with (at_builtin; refine wpList_app el_bytes rfl (.tmp 52) (.tmp 54) rfl w2.heap.size u9 f.length (bs f) (fun _ => True) A3 m c3 (bs d) rfl rfl HW.out.1 HW.out.2.2.2.1 HW.out.2.1 (bs_one d) HW.out.2.2.2.2.1 HW.out.2.2.2.2.2.1 HW.out.2.2.2.2.2.2 ?_; intro v9 w9 hown9 hg9 _ _)
      have HRel : Hid (w9.ownsRow w2.heap.size 5 1 v9 (flatTo R (k + 1)).length (bs (flatTo R (k + 1))) ∧ Below w2.heap.size w2 w9) := by
        rw [HQ.out.2.2.2.2.2, HF.out, List.length_append, bs_append, HQ.out.2.2.1]
        exact Lib.hid ⟨hown9, HW.out.2.2.1.grown hg9 HW.out.2.2.2.2.2.2 fun j ej => (HW.out.1.lt j ej).1⟩
      clear hown9 hg9
      go_roundw
      case rel => exact ⟨k + 1, by omega, by simp, HRel.out⟩
      case measure => simp [intOf]; omega
    · have hkk : k = R.length := by omega
      have B0 := Lib.hid (hb1.trans ((hb2.trans (hbr.mono hb2.size)).mono hb1.size))
      by_cases h0 : R.length = 0
      · have hz : ((n : Int) == 0) = true := by simp; omega
        clear hb1 hb2 hbr hall hkk hown hown' hvals hvals'
        go_wp2_with (go_at_call 13; refine (CA.out _).mono ?_; rintro e w5 ⟨rfl, hb5⟩; have B5 := Lib.hid hb5; clear hb5)
        go_ret
        exact ⟨rfl, B0.out.trans (B5.out.mono B0.out.size)⟩
      · have hz : ((n : Int) == 0) = false := by simp; omega
        have hfl : flatTo R k = l := by rw [hkk]; exact HR.out.1.resolve_left h0
        rw [hfl] at hall
        obtain ⟨A9, c9, rfl, _, _⟩ := own_form hall
        have R9 : Rd wr (fun _ => True) A9 (bs l) := Rd.of_own hall (fun _ _ _ => trivial)
        have CE : Hid (∀ W : World, Below wr.heap.size wr W → Calls Try.prog 28 #[.slice A9 l.length c9, .slice A l.length c] W fun e w' => e = .returned (.bool true) ∧ Below W.heap.size W w') := fun W hb =>
          (equal_any A9 A l l _ _ c9 c W _ _ rfl rfl (by omega) (R9.after hb) ((HR.out.2.2.2.after B0.out).after hb)).mono fun e w' ⟨h1, m, h2⟩ => ⟨by rw [h1, decide_eq_true rfl], by rw [h2]; exact below_of_drewN _ _ _⟩
        clear hb1 hb2 hbr hall hkk hown hown' hvals hvals' hfl R9
        go_wp2_with (first
          | (go_at_call 13; refine (CA.out _).mono ?_; rintro e w5 ⟨rfl, hb5⟩; have B5 := Lib.hid hb5; clear hb5)
          | (go_at_call 28; refine (CE.out _ B5.out).mono ?_; rintro e w6 ⟨rfl, hb6⟩; have B6 := Lib.hid (B5.out.trans (hb6.mono B5.out.size)); clear hb6))
        go_ret
        exact ⟨rfl, B0.out.trans (B6.out.mono B0.out.size)⟩
theorem splits_all (a sz : Int) (A : Option Addr) (l : List UInt8) (c : Nat) (w : World) (p : Nat → Prop) (hc : l.length ≤ c) (h : Rd w p A (bs l)) :
    Calls Try.prog 7 #[.int .i64 a, .int .i64 sz, .slice A l.length c] w fun e w' => e = .returned (.bool true) ∧ Below w.heap.size w w' := by
  by_cases hl : 2000 < (l.length : Int)
  · exact splits_long a sz A _ c w hl
  · exact splits_short a sz A l c w p (by omega) hc h
end Go.Proofs.Ytilfbnfejnjaeaa
