/- The walk of Of of the reference. -/
import Derived.Test.YtmkgppbnhkihjaaDoorOf
namespace Go.Proofs.YtmkgppbnhkihjaaDoor
open Go.RowKit Go.Shelf

theorem below_undrewN {B : Nat} {w w' : World} {n : Nat} (h : Below B (w.drewN n) w') : Below B w w' := ⟨h.os, h.tape, h.output, h.size, h.block⟩
/-- What Of of the reference hands back. -/
def RofPost (w : World) (R : List (Int × List UInt8)) (e : Ending) (w' : World) : Prop :=
  Below w.heap.size w w' ∧ ((∃ k S D, ofR aS0 aD0 R = (k, S, D) ∧ k ≠ 0 ∧ e = .returned (.tuple #[.slice none 0 0, .int .i64 k])) ∨
    ∃ A c S D, ofR aS0 aD0 R = (0, S, D) ∧ e = .returned (.tuple #[.slice A (cnt S D) c, .int .i64 0]) ∧ cnt S D ≤ c ∧ Rd w' (fun _ => True) A (cl (seg S D 0 65536)))

set_option maxHeartbeats 1000000 in
set_option maxRecDepth 100000 in
theorem rof_any (A : Option Addr) (xs : List Value) (R : List (Int × List UInt8)) (n c : Nat) (w : World) (p q : Nat → Prop) (hn : n = R.length) (hm : (n : Int) ≤ 60) (h : Rd w p A xs) (hR : RunVals w q xs R) (hl : ∀ r ∈ R, r.2.length ≤ 3000) (hT : Tab w) :
    Calls Tryd.prog 18 #[.slice A n c] w (RofPost w R) := by
  have HL := Lib.hid hl
  have HP := Lib.hid hT.pos
  have HRd := Lib.hid h
  have HRv := Lib.hid hR
  have HN := Lib.hid hn
  clear h hR hl hT hn
  go_enter Tryd.func18, Tryd.ntmps18
  go_wp2
  go_loopw [4, 5] (fun u v wr => ∃ k S D A4 c4, k ≤ n ∧ v = .int .i64 ((k : Nat) : Int) ∧ u = .slice A4 (cnt S D) c4 ∧ Hid (cnt S D ≤ c4) ∧ Hid (ofR aS0 aD0 R = ofR S D (R.drop k)) ∧ Hid (Rd wr (fun i => i ≠ 0) A4 (cl (seg S D 0 65536))) ∧ Hid (Below w.heap.size w wr)) (fun _ v _ => n - (intOf v).toNat)
  case atStart =>
    refine ⟨0, aS0, aD0, none, 0, Nat.zero_le _, rfl, by rw [cnt_none], by rw [cnt_none]; exact Nat.le_refl _, rfl, ?_, Below.refl _ _⟩
    rw [show seg aS0 aD0 0 65536 = [] from seg_none aS0 aD0 0 65536 (fun _ _ _ => rfl)]
    exact Rd.nil _ _ _
  case round =>
    obtain ⟨k, S, D, A4, c4, hk, rfl, rfl, HC4, hof, HC, HB⟩ := hrel
    by_cases hlt : k < n
    · have hkr : k < R.length := by rw [← HN.out]; exact hlt
      obtain ⟨b, o, B, cb, rfl, _, hc1, hc2, hd1⟩ := (HRd.out.after HB.out).run (HRv.out.after HB.out) hkr
      have hrl := HL.out _ (List.getElem_mem hkr)
      have hdrop : R.drop k = R[k] :: R.drop (k + 1) := List.drop_eq_getElem_cons hkr
      obtain ⟨r, hr⟩ : ∃ r, R[k] = r := ⟨_, rfl⟩
      simp only [hr] at hc1 hc2 hd1 hrl hdrop
      have HO : Hid (ofR aS0 aD0 R = ofR S D (r :: R.drop (k + 1))) := by rw [← hdrop]; exact hof.out
      have HZ : Hid (0 < wr.heap.size) := Nat.lt_of_lt_of_le HP.out HB.out.size
      have CR : Hid (∀ j, Calls Tryd.prog 12 #[.slice A4 (cnt S D) c4, .int .i64 r.1, .slice B r.2.length cb] (wr.drewN j) (RputPost (wr.drewN j) S D r.1 r.2 0)) := fun j =>
        rput_all 0 S D r.1 A4 c4 B r.2 cb (wr.drewN j) q (by omega) HZ.out HC4.out HC.out hd1
      have HL1 := Lib.hid (lt_of_cell hc1)
      have b1 : (0 : Int) ≤ (k : Int) := by omega
      have b2 : (k : Int) < (n : Int) := by omega
      clear hr hd1 hrl hdrop hof
      by_cases h0 : pcode S r.1 r.2 = 0
      · have H0 := Lib.hid h0
        have d0 : (((pcode S r.1 r.2 : Nat) : Int) != 0) = false := by simp [h0]
        clear h0
        go_wp2
        go_region_held3 (fun w' => w'.cell? ⟨b, o + k * 2, none⟩ = some (.int .i64 r.1) ∧ w'.cell? ⟨b, o + k * 2 + 1, none⟩ = some (.slice B r.2.length cb)) (go_keep)
          (first | (go_at_call 12; refine (CR.out _).mono ?_; rintro e w2 ⟨A2, c2, rfl, k1, k2, k3⟩; have K1 := Lib.hid k1; have K2 := Lib.hid k2; have K3 := Lib.hid (below_undrewN k3); have hc3 : w2.cell? ⟨b, o + k * 2, none⟩ = some (.int .i64 r.1) := (k3.cell (p := ⟨b, o + k * 2, none⟩) HL1.out).trans hc1; have hc4 : w2.cell? ⟨b, o + k * 2 + 1, none⟩ = some (.slice B r.2.length cb) := (k3.cell (p := ⟨b, o + k * 2 + 1, none⟩) HL1.out).trans hc2; clear k1 k2 k3))
        go_wp2
        exact ⟨⟨k + 1, _, _, A2, c2, by omega, by go_num, rfl, K1.out, by rw [HO.out, ofR_yes H0.out]; rfl, K2.out, HB.out.trans (K3.out.mono HB.out.size)⟩, by simp [intOf]; omega⟩
      · have H0 := Lib.hid h0
        have d0 : (((pcode S r.1 r.2 : Nat) : Int) != 0) = true := by simp; exact h0
        clear h0
        go_wp2
        go_region_held3 (fun w' => w'.cell? ⟨b, o + k * 2, none⟩ = some (.int .i64 r.1) ∧ w'.cell? ⟨b, o + k * 2 + 1, none⟩ = some (.slice B r.2.length cb)) (go_keep)
          (first | (go_at_call 12; refine (CR.out _).mono ?_; rintro e w2 ⟨A2, c2, rfl, k1, k2, k3⟩; have K3 := Lib.hid (below_undrewN k3); have hc3 : w2.cell? ⟨b, o + k * 2, none⟩ = some (.int .i64 r.1) := (k3.cell (p := ⟨b, o + k * 2, none⟩) HL1.out).trans hc1; have hc4 : w2.cell? ⟨b, o + k * 2 + 1, none⟩ = some (.slice B r.2.length cb) := (k3.cell (p := ⟨b, o + k * 2 + 1, none⟩) HL1.out).trans hc2; clear k1 k2 k3))
        go_wp2
        go_ret2
        exact ⟨HB.out.trans (K3.out.mono HB.out.size), .inl ⟨_, S, D, by rw [HO.out, ofR_no H0.out], H0.out, rfl⟩⟩
    · have hend : Hid (ofR aS0 aD0 R = (0, S, D)) := by rw [Hid, hof.out, List.drop_eq_nil_of_le (by rw [← HN.out]; omega)]; rfl
      clear hof
      go_wp2
      go_ret2
      exact ⟨HB.out, .inr ⟨A4, c4, S, D, hend.out, rfl, HC4.out, HC.out.mono (fun _ _ _ => trivial)⟩⟩
end Go.Proofs.YtmkgppbnhkihjaaDoor
