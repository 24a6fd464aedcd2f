/- The walks of given, of Of of an image and of Of of the reference. -/
import Derived.Test.YtmkgppbnhkihjaaDoorLawPuts
namespace Go.Proofs.YtmkgppbnhkihjaaDoor
open Go.RowKit Go.Shelf

theorem take_two {xs : List Value} {k : Nat} {x y : Value} (hx : xs[k * 2]? = some x) (hy : xs[k * 2 + 1]? = some y) : xs.take ((k + 1) * 2) = xs.take (k * 2) ++ [x, y] := by
  obtain ⟨h1, e1⟩ := List.getElem?_eq_some_iff.1 hx
  obtain ⟨h2, e2⟩ := List.getElem?_eq_some_iff.1 hy
  rw [show (k + 1) * 2 = k * 2 + 1 + 1 from by omega, List.take_succ_eq_append_getElem h2, List.take_succ_eq_append_getElem h1, e1, e2, List.append_assoc]
  rfl

theorem Rd.new2 (w : World) (o : Obj) (cs : Array Value) (r : Nat) : Rd ((w.alloc o).alloc (.cells cs r)) (fun _ => True) (some ⟨w.heap.size + 1, 0, none⟩) cs.toList := by
  have h := Rd.new (p := fun _ => True) (w.alloc o) cs r trivial
  simpa using h

/-- What given hands back. -/
def GivenPost (w : World) (n : Nat) (xs : List Value) (e : Ending) (w' : World) : Prop :=
  ∃ A c, e = .returned (.slice A n c) ∧ w'.ownsRow w.heap.size 39 2 (.slice A n c) n xs ∧ Below w.heap.size w w'
theorem given_any (A : Option Addr) (xs : List Value) (R : List (Int × List UInt8)) (n c : Nat) (w : World) (p q : Nat → Prop) (hn : n = R.length) (hm : (n : Int) ≤ 60) (h : Rd w p A xs) (hR : RunVals w q xs R) :
    Calls Tryd.prog 15 #[.slice A n c] w (GivenPost w n xs) := by
  have HN := Lib.hid hn
  have HRd := Lib.hid h
  have HRv := Lib.hid hR
  have HX : Hid (xs.length = n * 2) := by rw [hn]; exact hR.1
  clear hn h hR
  go_enter Tryd.func15, Tryd.ntmps15
  go_wp2
  go_loopw [3, 8] (fun u v wr => ∃ k : Nat, k ≤ n ∧ v = .int .i64 k ∧ Hid (wr.ownsRow w.heap.size 39 2 u k (xs.take (k * 2))) ∧ Hid (Below w.heap.size w wr)) (fun _ v _ => n - (intOf v).toNat)
  case atStart => exact ⟨0, Nat.zero_le _, rfl, World.ownsRow_nil _ _ _ _, Below.refl _ _⟩
  case round =>
    obtain ⟨k, hk, rfl, hown, hb⟩ := hrel
    by_cases hlt : k < n
    · have hkr : k < R.length := by rw [← HN.out]; exact hlt
      obtain ⟨e1, B, cb, e2, _⟩ := HRv.out.2 k hkr
      obtain ⟨b, o, rfl, _, hcell⟩ := (HRd.out.after hb.out).ex (fun e => by have := HX.out; rw [e] at this; simp at this; omega)
      have hc1 := hcell _ _ e1
      have hc2 := hcell _ _ e2
      have HT := Lib.hid (take_two e1 e2)
      obtain ⟨z, hz⟩ : ∃ z, R[k].1 = z := ⟨_, rfl⟩
      obtain ⟨d, hd⟩ : ∃ d, R[k].2.length = d := ⟨_, rfl⟩
      rw [hz] at hc1
      rw [hd] at hc2
      simp only [hz, hd] at HT
      obtain ⟨A3, c3, rfl, _⟩ := own_form hown.out
      clear e1 e2 hcell hz hd
      have hc1' : wr.cell? ⟨b, o + k * 2, none⟩ = some (.int .i64 z) := hc1
      have hc2' : wr.cell? ⟨b, o + k * 2 + 1, none⟩ = some (.slice B d cb) := hc2
      clear hc1 hc2
      go_wp2_with (at_builtin; (refine wpList_app el36 rfl (.tmp 12) (.tmp 14) rfl w.heap.size _ k (xs.take (k * 2)) (fun _ => True) _ 1 1 [.int .i64 z, .slice B d cb] rfl rfl ((hown.out.alloc _).alloc _) rfl (Rd.new2 wr _ #[.int .i64 z, .slice B d cb] 39) (by intro u hu; simp at hu; rcases hu with rfl | rfl <;> rfl) (by simp only [maxLen]; omega) (by omega) (by simp; have := hb.out.size; omega) ?_; intro v2 w2 hown2 hg2 hat2 hz2; have HO2 := Lib.hid hown2; have HB2 := Lib.hid (((hb.out.alloc hb.out.size _).alloc (by simp; have := hb.out.size; omega) _).grown hg2 (by simp; have := hb.out.size; omega) (fun q hq => (hown.out.lt q hq).1)); clear hown2 hg2 hat2 hz2))
      go_roundw
      case rel => exact ⟨k + 1, by omega, by go_num, by rw [HT.out]; exact HO2.out, HB2.out⟩
      case measure => simp [intOf]; omega
    · obtain rfl : k = n := by omega
      obtain ⟨A3, c3, rfl, _⟩ := own_form hown.out
      go_wp2
      go_ret
      have ho := hown.out
      rw [List.take_of_length_le (by rw [HX.out]; exact Nat.le_refl _)] at ho
      exact ⟨A3, c3, rfl, ho, hb.out⟩

/-- Putting runs one after the other, till one has a code. -/
def ofR (S : Nat → Bool) (D : Nat → UInt8) : List (Int × List UInt8) → Nat × (Nat → Bool) × (Nat → UInt8)
  | [] => (0, S, D)
  | r :: R => if pcode S r.1 r.2 = 0 then ofR (pS S r.1 r.2) (pD S D r.1 r.2) R else (pcode S r.1 r.2, S, D)
theorem ofR_yes {S : Nat → Bool} {D : Nat → UInt8} {r : Int × List UInt8} {R : List (Int × List UInt8)} (h : pcode S r.1 r.2 = 0) : ofR S D (r :: R) = ofR (pS S r.1 r.2) (pD S D r.1 r.2) R := by rw [ofR, if_pos h]
theorem ofR_no {S : Nat → Bool} {D : Nat → UInt8} {r : Int × List UInt8} {R : List (Int × List UInt8)} (h : ¬ pcode S r.1 r.2 = 0) : ofR S D (r :: R) = (pcode S r.1 r.2, S, D) := by rw [ofR, if_neg h]

/-- What Of of an image hands back. -/
def OfPost (w : World) (R : List (Int × List UInt8)) (e : Ending) (w' : World) : Prop :=
  Below w.heap.size w w' ∧ ((∃ k S D, ofR aS0 aD0 R = (k, S, D) ∧ k ≠ 0 ∧ e = .returned (.tuple #[.pointer none, .int .i64 k])) ∨
    ∃ g S D, ofR aS0 aD0 R = (0, S, D) ∧ e = .returned (.tuple #[.pointer (some ⟨g, 0, none⟩), .int .i64 0]) ∧ w.heap.size ≤ g ∧ Img w' g S (cnt S D) D)

set_option maxHeartbeats 1000000 in
set_option maxRecDepth 100000 in
theorem of_any (A : Option Addr) (xs : List Value) (R : List (Int × List UInt8)) (n c : Nat) (w : World) (p q : Nat → Prop) (hn : n = R.length) (hm : (n : Int) ≤ 60) (h : Rd w p A xs) (hR : RunVals w q xs R) (hl : ∀ r ∈ R, r.2.length ≤ 3000) (hT : Tab w) :
    Calls Tryd.prog 17 #[.slice A n c] w (OfPost w R) := by
  have HL := Lib.hid hl
  have HT := Lib.hid hT
  have HRd := Lib.hid h
  have HRv := Lib.hid hR
  have HN := Lib.hid hn
  obtain ⟨g, hg⟩ : ∃ g, w.heap.size = g := ⟨_, rfl⟩
  have HG := Lib.hid hg
  have C3 := Lib.hid (new_any w)
  rw [hg] at C3
  clear h hR hl hT hn hg
  go_enter Tryd.func17, Tryd.ntmps17
  go_wp2_with (go_at_call 11; refine C3.out.mono ?_; rintro e w1 ⟨rfl, hI, hb⟩; have HI1 : Hid (Img w1 g aS0 0 aD0) := hI; have HB1 := Lib.hid hb; clear hI hb)
  go_loopw [11] (fun v wr => ∃ k S D, k ≤ n ∧ v = .int .i64 ((k : Nat) : Int) ∧ Hid (ofR aS0 aD0 R = ofR S D (R.drop k)) ∧ Hid (Img wr g S (cnt S D) D) ∧ Hid (Below w.heap.size w wr)) (fun v _ => n - (intOf v).toNat)
  case atStart => exact ⟨0, aS0, aD0, Nat.zero_le _, rfl, rfl, by rw [cnt_none]; exact HI1.out, by rw [HG.out]; exact HB1.out⟩
  case round =>
    obtain ⟨k, S, D, hk, rfl, hof, HI, HB⟩ := hrel
    by_cases hlt : k < n
    · have hkr : k < R.length := by rw [← HN.out]; exact hlt
      obtain ⟨b, o, B, cb, rfl, _, hc1, hc2, hd1⟩ := (HRd.out.after HB.out).run (HRv.out.after HB.out) hkr
      have hrl := HL.out _ (List.getElem_mem hkr)
      have hdrop : R.drop k = R[k] :: R.drop (k + 1) := List.drop_eq_getElem_cons hkr
      obtain ⟨r, hr⟩ : ∃ r, R[k] = r := ⟨_, rfl⟩
      simp only [hr] at hc1 hc2 hd1 hrl hdrop
      have HO : Hid (ofR aS0 aD0 R = ofR S D (r :: R.drop (k + 1))) := by rw [← hdrop]; exact hof.out
      have HD := Lib.hid hd1
      have HRL := Lib.hid hrl
      have HTr := Lib.hid (HT.out.after HB.out)
      clear hr hd1 hrl hdrop hof
      by_cases h0 : pcode S r.1 r.2 = 0
      · have H0 := Lib.hid h0
        have d0 : (((pcode S r.1 r.2 : Nat) : Int) != 0) = false := by simp [h0]
        clear h0
        go_wp2_with (go_at_call 13; refine (put_all g S D r.1 B r.2 cb _ q (by have := HRL.out; omega) (img_alloc HI.out _) (tab_alloc HTr.out _) (HD.out.after ((Below.refl _ _).alloc (Nat.le_refl _) _))).mono ?_; rintro e w3 ⟨rfl, k1, k2⟩; have M1 := Lib.hid k1; have M4 := Lib.hid (below_img HB.out HB.out.size k2 (by have := HG.out; omega)); clear k1 k2)
        go_roundw
        case rel => exact ⟨k + 1, _, _, by omega, by go_num, by rw [HO.out, ofR_yes H0.out]; rfl, M1.out, M4.out⟩
        case measure => simp [intOf]; omega
      · have H0 := Lib.hid h0
        have d0 : (((pcode S r.1 r.2 : Nat) : Int) != 0) = true := by simp; exact h0
        clear h0
        go_wp2_with (go_at_call 13; refine (put_all g S D r.1 B r.2 cb _ q (by have := HRL.out; omega) (img_alloc HI.out _) (tab_alloc HTr.out _) (HD.out.after ((Below.refl _ _).alloc (Nat.le_refl _) _))).mono ?_; rintro e w3 ⟨rfl, k1, k2⟩; have M4 := Lib.hid (below_img HB.out HB.out.size k2 (by have := HG.out; omega)); clear k1 k2)
        go_ret2
        exact ⟨M4.out, .inl ⟨_, S, D, by rw [HO.out, ofR_no H0.out], H0.out, rfl⟩⟩
    · have hend : Hid (ofR aS0 aD0 R = (0, S, D)) := by rw [Hid, hof.out, List.drop_eq_nil_of_le (by rw [← HN.out]; omega)]; rfl
      clear hof
      go_wp2
      go_ret2
      exact ⟨HB.out, .inr ⟨g, S, D, hend.out, rfl, by rw [HG.out]; exact Nat.le_refl _, HI.out⟩⟩
end Go.Proofs.YtmkgppbnhkihjaaDoor
