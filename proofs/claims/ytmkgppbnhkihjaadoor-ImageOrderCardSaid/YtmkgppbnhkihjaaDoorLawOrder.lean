/- The walk of the statement ImageOrder. -/
import Derived.Test.YtmkgppbnhkihjaaDoorLawGets
import Derived.Test.YtmkgppbnhkihjaaDoorOrder
import Derived.Test.YtmkgppbnhkihjaaDoorRev
namespace Go.Proofs.YtmkgppbnhkihjaaDoor
open Go.RowKit Go.Shelf

theorem order_few (A : Option Addr) (xs : List Value) (R : List (Int × List UInt8)) (n c : Nat) (w : World) (p q : Nat → Prop) (hn : n = R.length) (hm : (n : Int) ≤ 281474976710656) (h : Rd w p A xs) (hR : RunVals w q xs R) (hT : Tab w) (hf : few R = false) :
    Calls Tryd.prog 4 #[.slice A n c] w fun e w' => e = .returned (.bool true) ∧ Below w.heap.size w w' := by
  have C1 := Lib.hid (few_any A xs R n c w p q hn hm h hR)
  rw [hf] at C1
  have C2 := Lib.hid (alive_any w hT)
  clear h hR hT hf hn
  go_enter Tryd.func4, Tryd.ntmps4
  go_wp2_with (first
    | (go_at_call 9; refine C1.out.mono ?_; rintro e w' ⟨rfl, rfl⟩)
    | (go_at_call 10; refine C2.out.mono ?_; rintro e w1 ⟨rfl, hb⟩; have HB := Lib.hid hb; clear hb))
  go_ret
  exact ⟨rfl, HB.out⟩

set_option maxHeartbeats 2000000 in
set_option maxRecDepth 100000 in
/-- Of has a code: of the reversed runs too. -/
theorem order_none (A : Option Addr) (xs : List Value) (R : List (Int × List UInt8)) (n c : Nat) (w : World) (p q : Nat → Prop) (hn : n = R.length) (h : Rd w p A xs) (hR : RunVals w q xs R) (hq : ∀ i, q i → i < w.heap.size) (hT : Tab w) (hf : few R = true)
    (k : Nat) (S0 : Nat → Bool) (D0 : Nat → UInt8) (hk : ofR aS0 aD0 R = (k, S0, D0)) (hk0 : k ≠ 0) (k' : Nat) (S1 : Nat → Bool) (D1 : Nat → UInt8) (hk' : ofR aS0 aD0 R.reverse = (k', S1, D1)) (hk0' : k' ≠ 0) :
    Calls Tryd.prog 4 #[.slice A n c] w fun e w' => e = .returned (.bool true) ∧ Below w.heap.size w w' := by
  have hfs := few_spec hf
  have C1 := Lib.hid (few_any A xs R n c w p q hn (by have := hfs.1; omega) h hR)
  rw [hf] at C1
  have hn60 : (n : Int) ≤ 60 := by have := hfs.1; omega
  have C2 := Lib.hid (given_any A xs R n c w p q hn hn60 h hR)
  have C6 : Hid (∀ W B d, Below w.heap.size w W → W.ownsRow w.heap.size 39 2 (.slice B n d) n xs → Calls Tryd.prog 16 #[.slice B n d] W fun e w' => e = .returned (.tuple #[]) ∧ Below w.heap.size W w' ∧ ∃ xs', Rd w' (fun _ => True) B xs' ∧ RunVals w' q xs' R.reverse) := fun W B d hb ho =>
    rev_any w.heap.size B xs R n d W q hn hn60 ho (hR.after hb) hq
  have C3 : Hid (∀ W B d xs', Below w.heap.size w W → Rd W (fun _ => True) B xs' → RunVals W q xs' R.reverse → Calls Tryd.prog 17 #[.slice B n d] W fun e w' => e = .returned (.tuple #[.pointer none, .int .i64 k']) ∧ Below W.heap.size W w') := fun W B d xs' hb ho hr =>
    of_code (p := fun _ => True) hk' hk0' (by rw [List.length_reverse]; exact hn) hn60 ho hr (fun r hr => hfs.2 r (by simpa using hr)) (hT.after hb)
  have C4 : Hid (∀ W, Below w.heap.size w W → Calls Tryd.prog 18 #[.slice A n c] W fun e w' => e = .returned (.tuple #[.slice none 0 0, .int .i64 k]) ∧ Below W.heap.size W w') := fun W hb => rof_code hk hk0 hn hn60 (h.after hb) (hR.after hb) hfs.2 (hT.after hb)
  have C5 : Hid (∀ W, Below w.heap.size w W → Calls Tryd.prog 10 #[] W fun e w' => e = .returned (.bool true) ∧ Below W.heap.size W w') := fun W hb => alive_any W (hT.after hb)
  have d2 : (((k' : Nat) : Int) == 0) = false := by simp; exact hk0'
  have d3 : (((k : Nat) : Int) == 0) = false := by simp; exact hk0
  have d4 : (((k : Nat) : Int) != 0) = true := by simp; exact hk0
  clear h hR hT hf hn hk hfs hk0 hk0' hk' hq
  go_enter Tryd.func4, Tryd.ntmps4
  go_wp2_with (first
    | (go_at_call 9; refine C1.out.mono ?_; rintro e w' ⟨rfl, rfl⟩)
    | (go_at_call 15; refine C2.out.mono ?_; rintro e w1 ⟨B, d, rfl, ho, hb⟩; have HO := Lib.hid ho; have HB1 := Lib.hid hb; clear ho hb)
    | (go_at_call 16; refine (C6.out _ _ _ HB1.out HO.out).mono ?_; rintro e w2 ⟨rfl, hb, xs', hr, hv⟩; have HR2 := Lib.hid hr; have HV2 := Lib.hid hv; have HB2 := Lib.hid (HB1.out.trans hb); clear hb hr hv)
    | (go_at_call 17; refine (C3.out _ _ _ _ HB2.out HR2.out HV2.out).mono ?_; rintro e w3 ⟨rfl, hb⟩; have HB3 := Lib.hid (HB2.out.trans (hb.mono HB2.out.size)); clear hb)
    | (go_at_call 18; refine (C4.out _ HB3.out).mono ?_; rintro e w4 ⟨rfl, hb⟩; have HB4 := Lib.hid (HB3.out.trans (hb.mono HB3.out.size)); clear hb)
    | (go_at_call 10; refine (C5.out _ HB4.out).mono ?_; rintro e w5 ⟨rfl, hb⟩; have HB5 := Lib.hid (HB4.out.trans (hb.mono HB4.out.size)); clear hb))
  go_ret
  exact ⟨rfl, HB5.out⟩

set_option maxHeartbeats 2000000 in
set_option maxRecDepth 100000 in
/-- Of has no code. -/
theorem order_some (A : Option Addr) (xs : List Value) (R : List (Int × List UInt8)) (n c : Nat) (w : World) (p q : Nat → Prop) (hn : n = R.length) (h : Rd w p A xs) (hR : RunVals w q xs R) (hq : ∀ i, q i → i < w.heap.size) (hT : Tab w) (hf : few R = true)
    (S0 : Nat → Bool) (D0 : Nat → UInt8) (hk : ofR aS0 aD0 R = (0, S0, D0)) :
    Calls Tryd.prog 4 #[.slice A n c] w fun e w' => e = .returned (.bool true) ∧ Below w.heap.size w w' := by
  have hfs := few_spec hf
  have hk' : ofR aS0 aD0 R.reverse = (0, S0, D0) := ofR_perm (List.reverse_perm R).symm _ _ _ hk
  have C1 := Lib.hid (few_any A xs R n c w p q hn (by have := hfs.1; omega) h hR)
  rw [hf] at C1
  have hn60 : (n : Int) ≤ 60 := by have := hfs.1; omega
  have C2 := Lib.hid (given_any A xs R n c w p q hn hn60 h hR)
  have C6 : Hid (∀ W B d, Below w.heap.size w W → W.ownsRow w.heap.size 39 2 (.slice B n d) n xs → Calls Tryd.prog 16 #[.slice B n d] W fun e w' => e = .returned (.tuple #[]) ∧ Below w.heap.size W w' ∧ ∃ xs', Rd w' (fun _ => True) B xs' ∧ RunVals w' q xs' R.reverse) := fun W B d hb ho =>
    rev_any w.heap.size B xs R n d W q hn hn60 ho (hR.after hb) hq
  have C3 : Hid (∀ W B d xs', Below w.heap.size w W → Rd W (fun _ => True) B xs' → RunVals W q xs' R.reverse → Calls Tryd.prog 17 #[.slice B n d] W fun e w' => ∃ g, e = .returned (.tuple #[.pointer (some ⟨g, 0, none⟩), .int .i64 0]) ∧ W.heap.size ≤ g ∧ Img w' g S0 (cnt S0 D0) D0 ∧ Below W.heap.size W w') := fun W B d xs' hb ho hr =>
    of_ok (p := fun _ => True) hk' (by rw [List.length_reverse]; exact hn) hn60 ho hr (fun r hr => hfs.2 r (by simpa using hr)) (hT.after hb)
  have C4 : Hid (∀ W, Below w.heap.size w W → Calls Tryd.prog 18 #[.slice A n c] W fun e w' => ∃ A2 c2, e = .returned (.tuple #[.slice A2 (cnt S0 D0) c2, .int .i64 0]) ∧ cnt S0 D0 ≤ c2 ∧ Rd w' (fun _ => True) A2 (cl (seg S0 D0 0 65536)) ∧ Below W.heap.size W w') := fun W hb => rof_ok hk hn hn60 (h.after hb) (hR.after hb) hfs.2 (hT.after hb)
  have C5 : Hid (∀ W, Below w.heap.size w W → Calls Tryd.prog 10 #[] W fun e w' => e = .returned (.bool true) ∧ Below W.heap.size W w') := fun W hb => alive_any W (hT.after hb)
  have HT := Lib.hid hT
  clear h hR hT hf hn hk hfs hk' hq
  go_enter Tryd.func4, Tryd.ntmps4
  go_wp2_with (first
    | (go_at_call 9; refine C1.out.mono ?_; rintro e w' ⟨rfl, rfl⟩)
    | (go_at_call 15; refine C2.out.mono ?_; rintro e w1 ⟨B, d, rfl, ho, hb⟩; have HO := Lib.hid ho; have HB1 := Lib.hid hb; clear ho hb)
    | (go_at_call 16; refine (C6.out _ _ _ HB1.out HO.out).mono ?_; rintro e w2 ⟨rfl, hb, xs', hr, hv⟩; have HR2 := Lib.hid hr; have HV2 := Lib.hid hv; have HB2 := Lib.hid (HB1.out.trans hb); clear hb hr hv)
    | (go_at_call 17; refine (C3.out _ _ _ _ HB2.out HR2.out HV2.out).mono ?_; rintro e w3 ⟨g, rfl, hg, hI, hb⟩; have HI3 := Lib.hid hI; have HB3 := Lib.hid (HB2.out.trans (hb.mono HB2.out.size)); clear hb hI hg)
    | (go_at_call 18; refine (C4.out _ HB3.out).mono ?_; rintro e w4 ⟨A2, c2, rfl, hc2, hr2, hb⟩; have HC2 := Lib.hid hc2; have HR4 := Lib.hid hr2; have HI4 := Lib.hid (HI3.out.after hb); have HB4 := Lib.hid (HB3.out.trans (hb.mono HB3.out.size)); clear hb hc2 hr2)
    | (go_at_call 10; refine (C5.out _ HB4.out).mono ?_; rintro e w5 ⟨rfl, hb⟩; have HB5 := Lib.hid (HB4.out.trans (hb.mono HB4.out.size)); have HI5 := Lib.hid (HI4.out.after hb); have HR5 := Lib.hid (HR4.out.after hb); clear hb)
    | (go_at_call 14; refine (same_one g S0 D0 A2 c2 _ _ _ rfl HC2.out HI5.out (HT.out.after HB5.out) HR5.out).mono ?_; rintro e w6 ⟨rfl, hb⟩; have HB6 := Lib.hid (HB5.out.trans (hb.mono HB5.out.size)); clear hb))
  go_ret
  exact ⟨rfl, HB6.out⟩
theorem order_any {A : Option Addr} {c : Nat} {xs : List Value} {R : List (Int × List UInt8)} {W : World} (hm : (R.length : Int) ≤ 281474976710656) (h : Rd W (fun _ => True) A xs) (hR : RunVals W (fun _ => True) xs R) (hT : Tab W) :
    Calls Tryd.prog 4 #[.slice A R.length c] W fun e W' => e = .returned (.bool true) ∧ Below W.heap.size W W' := by
  have hR := hR.move (q := fun i => i < W.heap.size) (w' := W) fun i h _ => ⟨h, rfl⟩
  cases hf : few R
  · exact order_few A xs R R.length c W _ _ rfl hm h hR hT hf
  · obtain ⟨k, hk⟩ : ∃ k, ofR aS0 aD0 R = k := ⟨_, rfl⟩
    obtain ⟨k, S, D⟩ := k
    obtain ⟨k', hk'⟩ : ∃ k, ofR aS0 aD0 R.reverse = k := ⟨_, rfl⟩
    obtain ⟨k', S', D'⟩ := k'
    by_cases hk0 : k = 0
    · subst hk0
      exact order_some A xs R R.length c W _ _ rfl h hR (fun _ h => h) hT hf S D hk
    · refine order_none A xs R R.length c W _ _ rfl h hR (fun _ h => h) hT hf k S D hk hk0 k' S' D' hk' fun h0 => ?_
      subst h0
      have := ofR_perm (List.reverse_perm R) _ _ _ hk'
      rw [hk] at this
      injection this with this _
      exact hk0 this
end Go.Proofs.YtmkgppbnhkihjaaDoor
