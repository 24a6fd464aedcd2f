/- Of at the runs of an image: the walk of Of at any list, and the law that the runs of an image make an image with the same cells. -/
import Derived.Test.YtmkgppbnhkihjaaDoorImsame
import Derived.Test.YtmkgppbnhkihjaaDoorOrder
namespace Go.Proofs.YtmkgppbnhkihjaaDoor
open Go.RowKit Go.Shelf

theorem start_le : ∀ {R : List (Nat × List UInt8)} {b : Nat}, Gp R b → start R b ≤ b
  | [], _, _ => Nat.le_refl _
  | r :: R, b, h => by
    have := start_le h.2.2
    have := h.2.1
    show r.1 ≤ b
    omega
theorem ofR_runs : ∀ (R : List (Nat × List UInt8)) (S : Nat → Bool) (D : Nat → UInt8), Gp R 65537 → (∀ x, start R 65537 ≤ x → S x = false) →
    ∃ S2 D2, ofR S D (ri R) = (0, S2, D2) ∧ seg S2 D2 0 65536 = seg S D 0 65536 ++ flat R
  | [], S, D, _, _ => ⟨S, D, rfl, by simp [flat]⟩
  | (a, d) :: R, S, D, h, h0 => by
    have h1 : a + d.length < start R 65537 := h.2.1
    have h2 := start_le h.2.2
    have h3 : 0 < d.length := List.length_pos_iff.2 h.1
    have hz : ∀ x, a ≤ x → S x = false := h0
    have hp : pcode S (a : Int) d = 0 := pcode_mk (by omega) (by omega) (fun x hx _ => hz x hx)
    have eS : pS S (a : Int) d = insR S a d.length := by unfold pS; rw [if_pos hp, Int.toNat_natCast]
    have eD : pD S D (a : Int) d = wr D a d := by unfold pD; rw [if_pos hp, Int.toNat_natCast]
    obtain ⟨S2, D2, e1, e2⟩ := ofR_runs R (insR S a d.length) (wr D a d) h.2.2 (fun x hx => by
      rw [insR, hz x (by omega), show decide (x < a + d.length) = false from by rw [decide_eq_false_iff_not]; omega]; simp)
    refine ⟨S2, D2, ?_, ?_⟩
    · show ofR S D (((a : Int), d) :: ri R) = _
      rw [ofR_yes (r := ((a : Int), d)) hp]
      show ofR (pS S (a : Int) d) (pD S D (a : Int) d) (ri R) = _
      rw [eS, eD]
      exact e1
    · have hrest : seg S D (a + d.length) (65536 - (a + d.length)) = [] := seg_none _ _ _ _ (fun x hx _ => hz x (by omega))
      have hmid : seg S D a d.length = [] := seg_none _ _ _ _ (fun x hx _ => hz x (by omega))
      have h5 := (over_no (S := S) (D := D) (a := a) (l := d) (by omega) (nxt_ge (by omega) (by omega) (fun x hx _ => hz x hx))).2.2.2.2.1
      rw [hrest, List.append_nil] at h5
      rw [e2, h5, seg_three S D a d.length (by omega), hmid, hrest, List.append_nil, List.append_nil, List.append_assoc]
      rfl
/-- The runs of an image make an image with the same cells. -/
theorem ofR_flat {R : List (Nat × List UInt8)} {L : List (Nat × UInt8)} (h : flat R = L) (hg : Gp R 65537) : ∃ S2 D2, ofR aS0 aD0 (ri R) = (0, S2, D2) ∧ seg S2 D2 0 65536 = L := by
  obtain ⟨S2, D2, e1, e2⟩ := ofR_runs R aS0 aD0 hg (fun _ _ => rfl)
  refine ⟨S2, D2, e1, ?_⟩
  rw [e2, seg_none aS0 aD0 0 65536 (fun _ _ _ => rfl), h]
  rfl

set_option maxHeartbeats 1000000 in
set_option maxRecDepth 100000 in
theorem of_wide (A : Option Addr) (xs : List Value) (R : List (Int × List UInt8)) (n c : Nat) (w : World) (p q : Nat → Prop) (hn : n = R.length) (hm : (n : Int) ≤ 65536) (h : Rd w p A xs) (hR : RunVals w q xs R) (hl : ∀ r ∈ R, (r.2.length : Int) ≤ 65536) (hT : Tab w) :
    Calls Tryd.prog 17 #[.slice A n c] w (OfPost w R) := by
  have HL := Lib.hid hl
  have HT := Lib.hid hT
  have HRd := Lib.hid h
  have HRv := Lib.hid hR
  have HN := Lib.hid hn
  obtain ⟨g, hg⟩ : ∃ g, w.heap.size = g := ⟨_, rfl⟩
  have HG := Lib.hid hg
  have C3 := Lib.hid (new_any w)
  rw [hg] at C3
  clear h hR hl hT hn hg
  go_enter Tryd.func17, Tryd.ntmps17
  go_wp2_with (go_at_call 11; refine C3.out.mono ?_; rintro e w1 ⟨rfl, hI, hb⟩; have HI1 : Hid (Img w1 g aS0 0 aD0) := hI; have HB1 := Lib.hid hb; clear hI hb)
  go_loopw [11] (fun v wr => ∃ k S D, k ≤ n ∧ v = .int .i64 ((k : Nat) : Int) ∧ Hid (ofR aS0 aD0 R = ofR S D (R.drop k)) ∧ Hid (Img wr g S (cnt S D) D) ∧ Hid (Below w.heap.size w wr)) (fun v _ => n - (intOf v).toNat)
  case atStart => exact ⟨0, aS0, aD0, Nat.zero_le _, rfl, rfl, by rw [cnt_none]; exact HI1.out, by rw [HG.out]; exact HB1.out⟩
  case round =>
    obtain ⟨k, S, D, hk, rfl, hof, HI, HB⟩ := hrel
    by_cases hlt : k < n
    · have hkr : k < R.length := by rw [← HN.out]; exact hlt
      obtain ⟨b, o, B, cb, rfl, _, hc1, hc2, hd1⟩ := (HRd.out.after HB.out).run (HRv.out.after HB.out) hkr
      have hrl := HL.out _ (List.getElem_mem hkr)
      have hdrop : R.drop k = R[k] :: R.drop (k + 1) := List.drop_eq_getElem_cons hkr
      obtain ⟨r, hr⟩ : ∃ r, R[k] = r := ⟨_, rfl⟩
      simp only [hr] at hc1 hc2 hd1 hrl hdrop
      have HO : Hid (ofR aS0 aD0 R = ofR S D (r :: R.drop (k + 1))) := by rw [← hdrop]; exact hof.out
      have HD := Lib.hid hd1
      have HRL := Lib.hid hrl
      have HTr := Lib.hid (HT.out.after HB.out)
      clear hr hd1 hrl hdrop hof
      by_cases h0 : pcode S r.1 r.2 = 0
      · have H0 := Lib.hid h0
        have d0 : (((pcode S r.1 r.2 : Nat) : Int) != 0) = false := by simp [h0]
        clear h0
        go_wp2_with (go_at_call 13; refine (put_all g S D r.1 B r.2 cb _ q HRL.out (img_alloc HI.out _) (tab_alloc HTr.out _) (HD.out.after ((Below.refl _ _).alloc (Nat.le_refl _) _))).mono ?_; rintro e w3 ⟨rfl, k1, k2⟩; have M1 := Lib.hid k1; have M4 := Lib.hid (below_img HB.out HB.out.size k2 (by have := HG.out; omega)); clear k1 k2)
        go_roundw
        case rel => exact ⟨k + 1, _, _, by omega, by go_num, by rw [HO.out, ofR_yes H0.out]; rfl, M1.out, M4.out⟩
        case measure => simp [intOf]; omega
      · have H0 := Lib.hid h0
        have d0 : (((pcode S r.1 r.2 : Nat) : Int) != 0) = true := by simp; exact h0
        clear h0
        go_wp2_with (go_at_call 13; refine (put_all g S D r.1 B r.2 cb _ q HRL.out (img_alloc HI.out _) (tab_alloc HTr.out _) (HD.out.after ((Below.refl _ _).alloc (Nat.le_refl _) _))).mono ?_; rintro e w3 ⟨rfl, k1, k2⟩; have M4 := Lib.hid (below_img HB.out HB.out.size k2 (by have := HG.out; omega)); clear k1 k2)
        go_ret2
        exact ⟨M4.out, .inl ⟨_, S, D, by rw [HO.out, ofR_no H0.out], H0.out, rfl⟩⟩
    · have hend : Hid (ofR aS0 aD0 R = (0, S, D)) := by rw [Hid, hof.out, List.drop_eq_nil_of_le (by rw [← HN.out]; omega)]; rfl
      clear hof
      go_wp2
      go_ret2
      exact ⟨HB.out, .inr ⟨g, S, D, hend.out, rfl, by rw [HG.out]; exact Nat.le_refl _, HI.out⟩⟩

theorem of_runs {A : Option Addr} {xs : List Value} {R : List (Nat × List UInt8)} {L : List (Nat × UInt8)} {c : Nat} {w : World} {p q : Nat → Prop} (hf : flat R = L) (hg : Gp R 65537) (hL : L.length ≤ 65536) (h : Rd w p A xs) (hR : RunVals w q xs (ri R)) (hT : Tab w) :
    Calls Tryd.prog 17 #[.slice A R.length c] w fun e w' => ∃ g S D, e = .returned (.tuple #[.pointer (some ⟨g, 0, none⟩), .int .i64 0]) ∧ seg S D 0 65536 = L ∧ Img w' g S (cnt S D) D ∧ w.heap.size ≤ g ∧ Below w.heap.size w w' := by
  obtain ⟨S, D, e1, e2⟩ := ofR_flat hf hg
  have hle : (flat R).length ≤ 65536 := by rw [hf]; exact hL
  refine (of_wide A xs (ri R) R.length c w p q (ri_length R).symm (by have := gp_len hg; omega) h hR (fun r hr => by
        obtain ⟨k, hk, rfl⟩ := List.getElem_of_mem hr
        have := ri_len hk
        omega) hT).mono fun e w' ⟨hb, hx⟩ => ?_
  rcases hx with ⟨k, S', D', e3, k0, _⟩ | ⟨g, S', D', e3, he, hge, hI⟩
  · rw [e1] at e3
    injection e3 with e3 _
    exact absurd e3.symm k0
  · rw [e1] at e3
    injection e3 with _ e3
    injection e3 with f1 f2
    subst f1; subst f2
    exact ⟨g, _, _, he, e2, hI, hge, hb⟩
end Go.Proofs.YtmkgppbnhkihjaaDoor
