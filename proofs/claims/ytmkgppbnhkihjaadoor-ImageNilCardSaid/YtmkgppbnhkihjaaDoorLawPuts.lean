/- The walk of the statement ImagePuts. -/
import Derived.Test.YtmkgppbnhkihjaaDoorPuts
namespace Go.Proofs.YtmkgppbnhkihjaaDoor
open Go.RowKit Go.Shelf

theorem few_spec {R : List (Int × List UInt8)} (h : few R = true) : R.length ≤ 60 ∧ ∀ r ∈ R, r.2.length ≤ 3000 := by
  simp only [few, Bool.and_eq_true, decide_eq_true_eq] at h
  refine ⟨h.1, fun r hr => ?_⟩
  have h2 := h.2
  clear h
  induction R with
  | nil => cases hr
  | cons x R ih =>
    have e : tot (x :: R) = min x.2.length 5000 + tot R := by simp [tot]
    rw [e] at h2
    rcases List.mem_cons.1 hr with rfl | hr
    · omega
    · exact ih hr (by omega)

/-- An image beside the cells of the reference. -/
def PState (w wr : World) (g : Nat) (v : Value) : Prop :=
  ∃ S D A c, v = .slice A (cnt S D) c ∧ cnt S D ≤ c ∧ Img wr g S (cnt S D) D ∧ Rd wr (fun q => q ≠ g) A (cl (seg S D 0 65536)) ∧ Below w.heap.size w wr
theorem cnt_none : cnt aS0 aD0 = 0 := by
  unfold cnt
  rw [seg_none aS0 aD0 0 65536 (fun _ _ _ => rfl)]
  rfl

theorem new_two {w w2 : World} {x y : Value} {t : TypeId} (hb : Below (w.alloc (.cells #[x, y] t)).heap.size (w.alloc (.cells #[x, y] t)) w2) :
    w2.cell? ⟨w.heap.size, 0, none⟩ = some x ∧ w2.cell? ⟨w.heap.size, 1, none⟩ = some y := by
  have h : (w.alloc (.cells #[x, y] t)).heap[w.heap.size]? = some (.cells #[x, y] t (0, 0)) := heap_alloc_new w _
  have h2 : w2.heap[w.heap.size]? = some (.cells #[x, y] t (0, 0)) := (hb.block _ (by simp)).trans h
  exact ⟨by simp [World.cell?, h2], by simp [World.cell?, h2]⟩

theorem puts_few (A : Option Addr) (xs : List Value) (R : List (Int × List UInt8)) (n c : Nat) (w : World) (p q : Nat → Prop) (hn : n = R.length) (hm : (n : Int) ≤ 281474976710656) (h : Rd w p A xs) (hR : RunVals w q xs R) (hT : Tab w) (hf : few R = false) :
    Calls Tryd.prog 3 #[.slice A n c] w fun e w' => e = .returned (.bool true) ∧ Below w.heap.size w w' := by
  have C1 := Lib.hid (few_any A xs R n c w p q hn hm h hR)
  rw [hf] at C1
  have C2 := Lib.hid (alive_any w hT)
  clear h hR hT hf hn
  go_enter Tryd.func3, Tryd.ntmps3
  go_wp2_with (first
    | (go_at_call 9; refine C1.out.mono ?_; rintro e w' ⟨rfl, rfl⟩)
    | (go_at_call 10; refine C2.out.mono ?_; rintro e w1 ⟨rfl, hb⟩; have HB := Lib.hid hb; clear hb))
  go_ret
  exact ⟨rfl, HB.out⟩

set_option maxHeartbeats 1000000 in
set_option maxRecDepth 100000 in
theorem puts_main (A : Option Addr) (xs : List Value) (R : List (Int × List UInt8)) (n c : Nat) (w : World) (p q : Nat → Prop) (hn : n = R.length) (hm : (n : Int) ≤ 281474976710656) (h : Rd w p A xs) (hR : RunVals w q xs R) (hT : Tab w) (hf : few R = true) :
    Calls Tryd.prog 3 #[.slice A n c] w fun e w' => e = .returned (.bool true) ∧ Below w.heap.size w w' := by
  have C1 := Lib.hid (few_any A xs R n c w p q hn hm h hR)
  rw [hf] at C1
  have HS := Lib.hid (few_spec hf)
  have HT := Lib.hid hT
  have HRd := Lib.hid h
  have HRv := Lib.hid hR
  have HN := Lib.hid hn
  have hn60 : (n : Int) ≤ 60 := by have := (few_spec hf).1; omega
  obtain ⟨g, hg⟩ : ∃ g, w.heap.size = g := ⟨_, rfl⟩
  have HG := Lib.hid hg
  have C3 := Lib.hid (new_any w)
  rw [hg] at C3
  clear h hR hT hf hn hg
  go_enter Tryd.func3, Tryd.ntmps3
  go_wp2_with (first
    | (go_at_call 9; refine C1.out.mono ?_; rintro e w' ⟨rfl, rfl⟩)
    | (go_at_call 11; refine C3.out.mono ?_; rintro e w1 ⟨rfl, hI, hb⟩; have HI1 : Hid (Img w1 g aS0 0 aD0) := hI; have HB1 := Lib.hid hb; clear hI hb))
  go_loopw [4, 16] (fun u v wr => ∃ k : Nat, k ≤ n ∧ v = .int .i64 k ∧ Hid (PState w wr g u)) (fun _ v _ => n - (intOf v).toNat)
  case atStart =>
    refine ⟨0, Nat.zero_le _, rfl, aS0, aD0, none, 0, by rw [cnt_none], by rw [cnt_none]; exact Nat.le_refl _, by rw [cnt_none]; exact HI1.out, ?_, by rw [HG.out]; exact HB1.out⟩
    rw [show seg aS0 aD0 0 65536 = [] from seg_none aS0 aD0 0 65536 (fun _ _ _ => rfl)]
    exact Rd.nil _ _ _
  case round =>
    obtain ⟨k, hk, rfl, hP⟩ := hrel
    obtain ⟨S, D, A4, c4, rfl, hc4, hI, hRd, hb⟩ := hP.out
    by_cases hlt : k < n
    · have hkr : k < R.length := by rw [← HN.out]; exact hlt
      obtain ⟨b, o, B, cb, rfl, _, hc1, hc2, hd1⟩ := (HRd.out.after hb).run (HRv.out.after hb) hkr
      have hrl := HS.out.2 _ (List.getElem_mem hkr)
      obtain ⟨r, hr⟩ : ∃ r, R[k] = r := ⟨_, rfl⟩
      simp only [hr] at hc1 hc2 hd1 hrl
      have HD := Lib.hid hd1
      have HRL := Lib.hid hrl
      have HB := Lib.hid hb
      have HI := Lib.hid hI
      have HC := Lib.hid hRd
      have HC4 := Lib.hid hc4
      clear hr hd1 hrl hb hI hRd hc4 hP
      have HTr := Lib.hid (HT.out.after HB.out)
      go_wp2_with (first
        | (go_at_call 12; refine (rput_all g S D r.1 A4 c4 B r.2 cb _ q (by have := HRL.out; omega) (img_alloc HI.out _).lt HC4.out (HC.out.after ((Below.refl _ _).alloc (Nat.le_refl _) _)) (HD.out.after ((Below.refl _ _).alloc (Nat.le_refl _) _))).mono ?_; rintro e w2 ⟨A2, c2, rfl, k1, k2, k3⟩; obtain ⟨hca, hcb⟩ := new_two k3; have K1 := Lib.hid k1; have K2 := Lib.hid k2; have K3 := Lib.hid (((Below.refl wr.heap.size wr).alloc (Nat.le_refl _) _).trans (k3.mono (Nat.le_of_lt (by simp)))); clear k1 k2 k3)
        | (go_at_call 13; refine (put_all g S D r.1 B r.2 cb w2 q (by have := HRL.out; omega) (HI.out.after K3.out) (HTr.out.after K3.out) (HD.out.after K3.out)).mono ?_; rintro e w3 ⟨rfl, k1, k2⟩; have M1 := Lib.hid k1; have M2 := Lib.hid k2; have M3 := Lib.hid (K2.out.grown k2 (fun i _ hi => fun e => hi (Option.some.inj e))); have M4 := Lib.hid ((HB.out.trans (K3.out.mono HB.out.size)).grown k2 (by have := HB.out.size; have := K3.out.size; omega) (fun j hj => by have e : g = j := Option.some.inj hj; have := HG.out; omega)); clear k1 k2)
        | (go_at_call 14; refine (same_one g _ _ A2 c2 w3 _ _ rfl K1.out M1.out (HT.out.after M4.out) M3.out).mono ?_; rintro e w4 ⟨rfl, k1⟩; have N1 := Lib.hid k1; clear k1))
      exact ⟨⟨k + 1, by omega, by go_num, _, _, A2, c2, rfl, K1.out, M1.out.after N1.out, M3.out.after N1.out, M4.out.trans (N1.out.mono M4.out.size)⟩, by simp [intOf]; omega⟩
    · have C2 := Lib.hid (alive_any wr (HT.out.after hb))
      have HB := Lib.hid hb
      clear hb hI hRd hc4 hP
      go_wp2_with (go_at_call 10; refine C2.out.mono ?_; rintro e w1 ⟨rfl, hb⟩; have HB9 := Lib.hid hb; clear hb)
      go_ret
      exact ⟨rfl, HB.out.trans (HB9.out.mono HB.out.size)⟩
end Go.Proofs.YtmkgppbnhkihjaaDoor
