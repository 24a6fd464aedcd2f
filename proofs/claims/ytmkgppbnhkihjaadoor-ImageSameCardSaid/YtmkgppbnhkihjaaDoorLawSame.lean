/- The walk of the statement ImageSame. -/
import Derived.Test.YtmkgppbnhkihjaaDoorRsame
import Derived.Test.YtmkgppbnhkihjaaDoorOrder
import Derived.Test.YtmkgppbnhkihjaaDoorLawPuts
namespace Go.Proofs.YtmkgppbnhkihjaaDoor
open Go.RowKit Go.Shelf

theorem put_differs (S : Nat → Bool) (D : Nat → UInt8) (a : Int) (y : UInt8) : decide (seg S D 0 65536 = seg (pS S a [y]) (pD S D a [y]) 0 65536) = (((pcode S a [y] : Nat) : Int) != 0) := by
  by_cases h : pcode S a [y] = 0
  · have e1 : (((pcode S a [y] : Nat) : Int) != 0) = false := by simp [h]
    rw [e1, decide_eq_false_iff_not]
    intro e
    obtain ⟨b, rfl, h1, h2, h3⟩ := pcode_zero h
    have eS : pS S (b : Int) [y] = insR S b 1 := by unfold pS; rw [if_pos h, Int.toNat_natCast]; rfl
    have eD : pD S D (b : Int) [y] = wr D b [y] := by unfold pD; rw [if_pos h, Int.toNat_natCast]
    have h6 := (over_no (S := S) (D := D) (a := b) (l := [y]) h1 (nxt_ge (by omega) h1 h3)).2.2.2.2.2.1
    have h7 : cnt (pS S (b : Int) [y]) (pD S D (b : Int) [y]) = cnt S D := by unfold cnt; rw [← e]
    rw [eS, eD] at h7
    have h8 : cnt (insR S b [y].length) (wr D b [y]) = cnt (insR S b 1) (wr D b [y]) := rfl
    rw [h8, h7] at h6
    simp at h6
  · have e1 : (((pcode S a [y] : Nat) : Int) != 0) = true := by simp; exact h
    have eS : pS S a [y] = S := by unfold pS; rw [if_neg h]
    have eD : pD S D a [y] = D := by unfold pD; rw [if_neg h]
    rw [e1, eS, eD, decide_eq_true rfl]

/-- A list of runs at hand. -/
structure Lst (w : World) (A : Option Addr) (xs : List Value) (R : List (Int × List UInt8)) (n : Nat) : Prop where
  len : n = R.length
  big : (n : Int) ≤ 281474976710656
  rd : Rd w (fun _ => True) A xs
  rv : RunVals w (fun _ => True) xs R
section
variable {w W : World} {A : Option Addr} {xs : List Value} {R : List (Int × List UInt8)} {n : Nat}
theorem Lst.after (h : Lst w A xs R n) (hb : Below w.heap.size w W) : Lst W A xs R n := ⟨h.len, h.big, h.rd.after hb, h.rv.after hb⟩
theorem Lst.few (h : Lst w A xs R n) (c : Nat) {f : Bool} (hf : few R = f) (hb : Below w.heap.size w W) : Calls Tryd.prog 9 #[.slice A n c] W fun e w' => e = .returned (.bool f) ∧ W = w' := by
  have := few_any A xs R n c W _ _ h.len h.big (h.rd.after hb) (h.rv.after hb)
  rw [hf] at this
  exact this
theorem Lst.sixty (h : Lst w A xs R n) (hf : YtmkgppbnhkihjaaDoor.few R = true) : (n : Int) ≤ 60 := by have := (few_spec hf).1; have := h.len; omega
theorem Lst.given (h : Lst w A xs R n) (c : Nat) (hf : YtmkgppbnhkihjaaDoor.few R = true) (hb : Below w.heap.size w W) : Calls Tryd.prog 15 #[.slice A n c] W fun e w' => ∃ B d, e = .returned (.slice B n d) ∧ w'.ownsRow W.heap.size 39 2 (.slice B n d) n xs ∧ Below W.heap.size W w' :=
  given_any A xs R n c W _ _ h.len (h.sixty hf) (h.rd.after hb) (h.rv.after hb)
theorem Lst.code (h : Lst w A xs R n) (hT : Tab w) (hf : YtmkgppbnhkihjaaDoor.few R = true) {k : Nat} {S : Nat → Bool} {D : Nat → UInt8} (hk : ofR aS0 aD0 R = (k, S, D)) (hk0 : k ≠ 0) {base : Nat} {B : Option Addr} {d : Nat} (hb : Below w.heap.size w W) (ho : W.ownsRow base 39 2 (.slice B n d) n xs) :
    Calls Tryd.prog 17 #[.slice B n d] W fun e w' => e = .returned (.tuple #[.pointer none, .int .i64 k]) ∧ Below W.heap.size W w' :=
  of_code (p := fun _ => True) hk hk0 h.len (h.sixty hf) (Rd.of_own ho (fun _ _ _ => trivial)) (h.rv.after hb) (few_spec hf).2 (hT.after hb)
theorem Lst.ok (h : Lst w A xs R n) (hT : Tab w) (hf : YtmkgppbnhkihjaaDoor.few R = true) {S : Nat → Bool} {D : Nat → UInt8} (hk : ofR aS0 aD0 R = (0, S, D)) {base : Nat} {B : Option Addr} {d : Nat} (hb : Below w.heap.size w W) (ho : W.ownsRow base 39 2 (.slice B n d) n xs) :
    Calls Tryd.prog 17 #[.slice B n d] W fun e w' => ∃ g, e = .returned (.tuple #[.pointer (some ⟨g, 0, none⟩), .int .i64 0]) ∧ W.heap.size ≤ g ∧ Img w' g S (cnt S D) D ∧ Below W.heap.size W w' :=
  of_ok (p := fun _ => True) hk h.len (h.sixty hf) (Rd.of_own ho (fun _ _ _ => trivial)) (h.rv.after hb) (few_spec hf).2 (hT.after hb)
theorem Lst.rok (h : Lst w A xs R n) (c : Nat) (hT : Tab w) (hf : YtmkgppbnhkihjaaDoor.few R = true) {S : Nat → Bool} {D : Nat → UInt8} (hk : ofR aS0 aD0 R = (0, S, D)) (hb : Below w.heap.size w W) :
    Calls Tryd.prog 18 #[.slice A n c] W fun e w' => ∃ A2 c2, e = .returned (.tuple #[.slice A2 (cnt S D) c2, .int .i64 0]) ∧ cnt S D ≤ c2 ∧ Rd w' (fun _ => True) A2 (cl (seg S D 0 65536)) ∧ Below W.heap.size W w' :=
  rof_ok hk h.len (h.sixty hf) (h.rd.after hb) (h.rv.after hb) (few_spec hf).2 (hT.after hb)
theorem alive_on (hT : Tab w) (hb : Below w.heap.size w W) : Calls Tryd.prog 10 #[] W fun e w' => e = .returned (.bool true) ∧ Below W.heap.size W w' := alive_any W (hT.after hb)
end

section
variable {w : World} {A A' : Option Addr} {xs xs' : List Value} {R R' : List (Int × List UInt8)} {n n' c c' : Nat} {z z2 : Int}
set_option maxHeartbeats 1000000 in
theorem same_few1 (h : Lst w A xs R n) (hT : Tab w) (hf : few R = false) :
    Calls Tryd.prog 8 #[.agg #[.slice A n c, .slice A' n' c'], .int .u16 z, .int .u8 z2] w fun e w' => e = .returned (.bool true) ∧ Below w.heap.size w w' := by
  have H := Lib.hid h
  have HT := Lib.hid hT
  have HF := Lib.hid hf
  have hb0 : Hid (∀ o m, Below w.heap.size w ((w.alloc o).drewN m)) := fun o m => below_drewN ((Below.refl _ _).alloc (Nat.le_refl _) _) _
  clear h hT hf
  go_enter Tryd.func8, Tryd.ntmps8
  go_wp2
  go_quiet (fail)
  go_wp2_with (first
    | (go_at_call 9; refine (H.out.few c HF.out (hb0.out _ _)).mono ?_; rintro e w' ⟨rfl, rfl⟩)
    | (go_at_call 10; refine (alive_on HT.out (hb0.out _ _)).mono ?_; rintro e w1 ⟨rfl, hb⟩; have HB := Lib.hid ((hb0.out _ _).trans (hb.mono (hb0.out _ _).size)); clear hb))
  go_ret
  exact ⟨rfl, HB.out⟩
set_option maxHeartbeats 1000000 in
theorem same_few2 (h : Lst w A xs R n) (h' : Lst w A' xs' R' n') (hT : Tab w) (hf : few R = true) (hf' : few R' = false) :
    Calls Tryd.prog 8 #[.agg #[.slice A n c, .slice A' n' c'], .int .u16 z, .int .u8 z2] w fun e w' => e = .returned (.bool true) ∧ Below w.heap.size w w' := by
  have H : Hid (∀ W, Below w.heap.size w W → Calls Tryd.prog 9 #[.slice A n c] W fun e w' => e = .returned (.bool true) ∧ W = w') := fun W hb => h.few c hf hb
  have H' : Hid (∀ W, Below w.heap.size w W → Calls Tryd.prog 9 #[.slice A' n' c'] W fun e w' => e = .returned (.bool false) ∧ W = w') := fun W hb => h'.few c' hf' hb
  have HT := Lib.hid hT
  have hb0 : Hid (∀ o m, Below w.heap.size w ((w.alloc o).drewN m)) := fun o m => below_drewN ((Below.refl _ _).alloc (Nat.le_refl _) _) _
  clear h hT hf h' hf'
  go_enter Tryd.func8, Tryd.ntmps8
  go_wp2
  go_quiet (fail)
  go_wp2_with (first
    | (go_at_call 9; refine (H.out _ (hb0.out _ _)).mono ?_; rintro e w' ⟨rfl, rfl⟩; clear H)
    | (go_at_call 9; refine (H'.out _ (hb0.out _ _)).mono ?_; rintro e w' ⟨rfl, rfl⟩)
    | (go_at_call 10; refine (alive_on HT.out (hb0.out _ _)).mono ?_; rintro e w1 ⟨rfl, hb⟩; have HB := Lib.hid ((hb0.out _ _).trans (hb.mono (hb0.out _ _).size)); clear hb))
  go_ret
  exact ⟨rfl, HB.out⟩
set_option maxHeartbeats 1000000 in
theorem same_code1 (h : Lst w A xs R n) (h' : Lst w A' xs' R' n') (hT : Tab w) (hf : few R = true) (hf' : few R' = true) {k : Nat} {S : Nat → Bool} {D : Nat → UInt8} (hk : ofR aS0 aD0 R = (k, S, D)) (hk0 : k ≠ 0) {k' : Nat} {S' : Nat → Bool} {D' : Nat → UInt8} (hk' : ofR aS0 aD0 R' = (k', S', D')) :
    Calls Tryd.prog 8 #[.agg #[.slice A n c, .slice A' n' c'], .int .u16 z, .int .u8 z2] w fun e w' => e = .returned (.bool true) ∧ Below w.heap.size w w' := by
  have H : Hid (∀ W, Below w.heap.size w W → Calls Tryd.prog 9 #[.slice A n c] W fun e w' => e = .returned (.bool true) ∧ W = w') := fun W hb => h.few c hf hb
  have H' : Hid (∀ W, Below w.heap.size w W → Calls Tryd.prog 9 #[.slice A' n' c'] W fun e w' => e = .returned (.bool true) ∧ W = w') := fun W hb => h'.few c' hf' hb
  have G : Hid (∀ W, Below w.heap.size w W → Calls Tryd.prog 15 #[.slice A n c] W fun e w' => ∃ B d, e = .returned (.slice B n d) ∧ w'.ownsRow W.heap.size 39 2 (.slice B n d) n xs ∧ Below W.heap.size W w') := fun W hb => h.given c hf hb
  have G' : Hid (∀ W, Below w.heap.size w W → Calls Tryd.prog 15 #[.slice A' n' c'] W fun e w' => ∃ B d, e = .returned (.slice B n' d) ∧ w'.ownsRow W.heap.size 39 2 (.slice B n' d) n' xs' ∧ Below W.heap.size W w') := fun W hb => h'.given c' hf' hb
  have O : Hid (∀ W base B d, Below w.heap.size w W → W.ownsRow base 39 2 (.slice B n d) n xs → Calls Tryd.prog 17 #[.slice B n d] W fun e w' => e = .returned (.tuple #[.pointer none, .int .i64 k]) ∧ Below W.heap.size W w') := fun W base B d hb ho => h.code hT hf hk hk0 hb ho
  have O' : Hid (∀ W base B d, Below w.heap.size w W → W.ownsRow base 39 2 (.slice B n' d) n' xs' → Calls Tryd.prog 17 #[.slice B n' d] W fun e w' => ∃ v j, e = .returned (.tuple #[v, .int .i64 j]) ∧ Below W.heap.size W w') := fun W base B d hb ho => by
    by_cases h0 : k' = 0
    · subst h0
      exact (h'.ok hT hf' hk' hb ho).mono fun e w' ⟨g, he, _, _, hb⟩ => ⟨_, _, he, hb⟩
    · exact (h'.code hT hf' hk' h0 hb ho).mono fun e w' ⟨he, hb⟩ => ⟨_, _, he, hb⟩
  have HT := Lib.hid hT
  have hb0 : Hid (∀ o m, Below w.heap.size w ((w.alloc o).drewN m)) := fun o m => below_drewN ((Below.refl _ _).alloc (Nat.le_refl _) _) _
  have d1 : (((k : Nat) : Int) != 0) = true := by simp; exact hk0
  clear h hT hf h' hf' hk hk' hk0
  go_enter Tryd.func8, Tryd.ntmps8
  go_wp2
  go_quiet (fail)
  go_wp2_with (first
    | (go_at_call 9; refine (H.out _ (hb0.out _ _)).mono ?_; rintro e w' ⟨rfl, rfl⟩; clear H)
    | (go_at_call 9; refine (H'.out _ (hb0.out _ _)).mono ?_; rintro e w' ⟨rfl, rfl⟩; clear H')
    | (go_at_call 15; refine (G.out _ (hb0.out _ _)).mono ?_; rintro e w1 ⟨B, d, rfl, ho, hb⟩; have HO := Lib.hid ho; have HB1 := Lib.hid ((hb0.out _ _).trans (hb.mono (hb0.out _ _).size)); clear ho hb G)
    | (go_at_call 17; refine (O.out _ _ _ _ HB1.out HO.out).mono ?_; rintro e w2 ⟨rfl, hb⟩; have HB2 := Lib.hid (HB1.out.trans (hb.mono HB1.out.size)); clear hb O)
    | (go_at_call 15; refine (G'.out _ HB2.out).mono ?_; rintro e w3 ⟨B', d', rfl, ho, hb⟩; have HO' := Lib.hid ho; have HB3 := Lib.hid (HB2.out.trans (hb.mono HB2.out.size)); clear ho hb G')
    | (go_at_call 17; refine (O'.out _ _ _ _ HB3.out HO'.out).mono ?_; rintro e w4 ⟨v, j, rfl, hb⟩; have HB4 := Lib.hid (HB3.out.trans (hb.mono HB3.out.size)); clear hb O')
    | (go_at_call 10; refine (alive_on HT.out HB4.out).mono ?_; rintro e w5 ⟨rfl, hb⟩; have HB := Lib.hid (HB4.out.trans (hb.mono HB4.out.size)); clear hb))
  go_ret
  exact ⟨rfl, HB.out⟩
set_option maxHeartbeats 1000000 in
theorem same_code2 (h : Lst w A xs R n) (h' : Lst w A' xs' R' n') (hT : Tab w) (hf : few R = true) (hf' : few R' = true) {S : Nat → Bool} {D : Nat → UInt8} (hk : ofR aS0 aD0 R = (0, S, D)) {k' : Nat} {S' : Nat → Bool} {D' : Nat → UInt8} (hk' : ofR aS0 aD0 R' = (k', S', D')) (hk0 : k' ≠ 0) :
    Calls Tryd.prog 8 #[.agg #[.slice A n c, .slice A' n' c'], .int .u16 z, .int .u8 z2] w fun e w' => e = .returned (.bool true) ∧ Below w.heap.size w w' := by
  have H : Hid (∀ W, Below w.heap.size w W → Calls Tryd.prog 9 #[.slice A n c] W fun e w' => e = .returned (.bool true) ∧ W = w') := fun W hb => h.few c hf hb
  have H' : Hid (∀ W, Below w.heap.size w W → Calls Tryd.prog 9 #[.slice A' n' c'] W fun e w' => e = .returned (.bool true) ∧ W = w') := fun W hb => h'.few c' hf' hb
  have G : Hid (∀ W, Below w.heap.size w W → Calls Tryd.prog 15 #[.slice A n c] W fun e w' => ∃ B d, e = .returned (.slice B n d) ∧ w'.ownsRow W.heap.size 39 2 (.slice B n d) n xs ∧ Below W.heap.size W w') := fun W hb => h.given c hf hb
  have G' : Hid (∀ W, Below w.heap.size w W → Calls Tryd.prog 15 #[.slice A' n' c'] W fun e w' => ∃ B d, e = .returned (.slice B n' d) ∧ w'.ownsRow W.heap.size 39 2 (.slice B n' d) n' xs' ∧ Below W.heap.size W w') := fun W hb => h'.given c' hf' hb
  have O : Hid (∀ W base B d, Below w.heap.size w W → W.ownsRow base 39 2 (.slice B n d) n xs → Calls Tryd.prog 17 #[.slice B n d] W fun e w' => ∃ g, e = .returned (.tuple #[.pointer (some ⟨g, 0, none⟩), .int .i64 0]) ∧ Below W.heap.size W w') := fun W base B d hb ho =>
    (h.ok hT hf hk hb ho).mono fun e w' ⟨g, he, _, _, hb⟩ => ⟨g, he, hb⟩
  have O' : Hid (∀ W base B d, Below w.heap.size w W → W.ownsRow base 39 2 (.slice B n' d) n' xs' → Calls Tryd.prog 17 #[.slice B n' d] W fun e w' => e = .returned (.tuple #[.pointer none, .int .i64 k']) ∧ Below W.heap.size W w') := fun W base B d hb ho => h'.code hT hf' hk' hk0 hb ho
  have HT := Lib.hid hT
  have hb0 : Hid (∀ o m, Below w.heap.size w ((w.alloc o).drewN m)) := fun o m => below_drewN ((Below.refl _ _).alloc (Nat.le_refl _) _) _
  have d1 : (((k' : Nat) : Int) != 0) = true := by simp; exact hk0
  clear h hT hf h' hf' hk hk' hk0
  go_enter Tryd.func8, Tryd.ntmps8
  go_wp2
  go_quiet (fail)
  go_wp2_with (first
    | (go_at_call 9; refine (H.out _ (hb0.out _ _)).mono ?_; rintro e w' ⟨rfl, rfl⟩; clear H)
    | (go_at_call 9; refine (H'.out _ (hb0.out _ _)).mono ?_; rintro e w' ⟨rfl, rfl⟩; clear H')
    | (go_at_call 15; refine (G.out _ (hb0.out _ _)).mono ?_; rintro e w1 ⟨B, d, rfl, ho, hb⟩; have HO := Lib.hid ho; have HB1 := Lib.hid ((hb0.out _ _).trans (hb.mono (hb0.out _ _).size)); clear ho hb G)
    | (go_at_call 17; refine (O.out _ _ _ _ HB1.out HO.out).mono ?_; rintro e w2 ⟨g, rfl, hb⟩; have HB2 := Lib.hid (HB1.out.trans (hb.mono HB1.out.size)); clear hb O)
    | (go_at_call 15; refine (G'.out _ HB2.out).mono ?_; rintro e w3 ⟨B', d', rfl, ho, hb⟩; have HO' := Lib.hid ho; have HB3 := Lib.hid (HB2.out.trans (hb.mono HB2.out.size)); clear ho hb G')
    | (go_at_call 17; refine (O'.out _ _ _ _ HB3.out HO'.out).mono ?_; rintro e w4 ⟨rfl, hb⟩; have HB4 := Lib.hid (HB3.out.trans (hb.mono HB3.out.size)); clear hb O')
    | (go_at_call 10; refine (alive_on HT.out HB4.out).mono ?_; rintro e w5 ⟨rfl, hb⟩; have HB := Lib.hid (HB4.out.trans (hb.mono HB4.out.size)); clear hb))
  go_ret
  exact ⟨rfl, HB.out⟩
end
/-- Where the statement stands once the images and the cells of the reference are made. -/
structure SSt (w W : World) (g g' : Nat) (S S' : Nat → Bool) (D D' : Nat → UInt8) (A A' : Option Addr) (c c' : Nat) : Prop where
  below : Below w.heap.size w W
  img : Img W g S (cnt S D) D
  img' : Img W g' S' (cnt S' D') D'
  rd : Rd W (fun _ => True) A (cl (seg S D 0 65536))
  rd' : Rd W (fun _ => True) A' (cl (seg S' D' 0 65536))
  cap : cnt S D ≤ c
  tab : Tab W
section
variable {w w1 W : World} {g g' N : Nat} {S S' S2 : Nat → Bool} {D D' D2 : Nat → UInt8} {A A' : Option Addr} {c c' : Nat}
theorem SSt.imsame (h : SSt w w1 g g' S S' D D' A A' c c') (hb : Below w1.heap.size w1 W) {x : Bool} (hx : decide (seg S D 0 65536 = seg S' D' 0 65536) = x) :
    Calls Tryd.prog 22 #[.pointer (some ⟨g, 0, none⟩), .pointer (some ⟨g', 0, none⟩)] W fun e w' => e = .returned (.bool x) ∧ Below W.heap.size W w' := by
  have := imsame_any (.pointer (some ⟨g, 0, none⟩)) (.pointer (some ⟨g', 0, none⟩)) S S' D D' W (.inl ⟨g, _, rfl, h.img.after hb⟩) (.inl ⟨g', _, rfl, h.img'.after hb⟩) (h.tab.after hb)
  rw [hx] at this
  exact this
theorem SSt.imsame2 (h : SSt w w1 g g' S S' D D' A A' c c') (hb : Below w1.heap.size w1 W) (hI : Img W N S2 (cnt S2 D2) D2) {y : Bool} (hy : decide (seg S D 0 65536 = seg S2 D2 0 65536) = y) :
    Calls Tryd.prog 22 #[.pointer (some ⟨g, 0, none⟩), .pointer (some ⟨N, 0, none⟩)] W fun e w' => e = .returned (.bool y) ∧ Below W.heap.size W w' := by
  have := imsame_any (.pointer (some ⟨g, 0, none⟩)) (.pointer (some ⟨N, 0, none⟩)) S S2 D D2 W (.inl ⟨g, _, rfl, h.img.after hb⟩) (.inl ⟨N, _, rfl, hI⟩) (h.tab.after hb)
  rw [hy] at this
  exact this
theorem SSt.rsame (h : SSt w w1 g g' S S' D D' A A' c c') (hb : Below w1.heap.size w1 W) {x : Bool} (hx : decide (seg S D 0 65536 = seg S' D' 0 65536) = x) :
    Calls Tryd.prog 25 #[.slice A (cnt S D) c, .slice A' (cnt S' D') c'] W fun e w' => e = .returned (.bool x) ∧ Below W.heap.size W w' := by
  have := rsame_any A A' (seg S D 0 65536) (seg S' D' 0 65536) (cnt S D) (cnt S' D') c c' W _ _ rfl rfl (by have := seg_le S D 0 65536; unfold cnt; omega) (h.rd.after hb) (h.rd'.after hb)
  rw [hx] at this
  exact this
theorem SSt.same (h : SSt w w1 g g' S S' D D' A A' c c') (hb : Below w1.heap.size w1 W) :
    Calls Tryd.prog 14 #[.pointer (some ⟨g, 0, none⟩), .slice A (cnt S D) c] W fun e w' => e = .returned (.int .i64 1) ∧ Below W.heap.size W w' :=
  same_one g S D A c W _ _ rfl h.cap (h.img.after hb) (h.tab.after hb) (h.rd.after hb)
theorem SSt.clone (h : SSt w w1 g g' S S' D D' A A' c c') : Calls Tryd.prog 24 #[.pointer (some ⟨g, 0, none⟩)] w1 fun e w' => ∃ N, e = .returned (.pointer (some ⟨N, 0, none⟩)) ∧ w1.heap.size ≤ N ∧ Img w' N S (cnt S D) D ∧ Below w1.heap.size w1 w' :=
  imclone_any g _ S D w1 h.img
theorem SSt.put (h : SSt w w1 g g' S S' D D' A A' c c') (hb : Below w1.heap.size w1 W) (hN : w1.heap.size ≤ N) (hI : Img W N S (cnt S D) D) (a : Int) (y : UInt8) {k : Nat} (hk : pcode S a [y] = k) :
    Calls Tryd.prog 13 #[.pointer (some ⟨N, 0, none⟩), .int .i64 a, .slice (some ⟨W.heap.size, 0, none⟩) 1 1] (W.alloc (.cells #[.int .u8 (y.toNat : Int)] 5)) fun e w' => e = .returned (.int .i64 k) ∧ Img w' N (pS S a [y]) (cnt (pS S a [y]) (pD S D a [y])) (pD S D a [y]) ∧ Below w1.heap.size w1 w' := by
  refine (put_all N S D a (some ⟨W.heap.size, 0, none⟩) [y] 1 (W.alloc (.cells #[.int .u8 (y.toNat : Int)] 5)) (fun _ => True) (by simp) (img_alloc hI _) (tab_alloc (h.tab.after hb) _) (Rd.new W #[.int .u8 (y.toNat : Int)] 5 trivial)).mono ?_
  rintro e w' ⟨he, h1, h2⟩
  rw [hk] at he
  exact ⟨he, h1, below_img hb hb.size h2 hN⟩
end
section
variable {w : World} {A A' : Option Addr} {xs xs' : List Value} {R R' : List (Int × List UInt8)} {n n' c c' : Nat} {z : Int} {y : UInt8}
set_option maxHeartbeats 2000000 in
theorem same_main (h : Lst w A xs R n) (h' : Lst w A' xs' R' n') (hT : Tab w) (hf : few R = true) (hf' : few R' = true) {S : Nat → Bool} {D : Nat → UInt8} (hk : ofR aS0 aD0 R = (0, S, D)) {S' : Nat → Bool} {D' : Nat → UInt8} (hk' : ofR aS0 aD0 R' = (0, S', D')) :
    Calls Tryd.prog 8 #[.agg #[.slice A n c, .slice A' n' c'], .int .u16 z, .int .u8 (y.toNat : Int)] w fun e w' => e = .returned (.bool true) ∧ Below w.heap.size w w' := by
  have H : Hid (∀ W, Below w.heap.size w W → Calls Tryd.prog 9 #[.slice A n c] W fun e w' => e = .returned (.bool true) ∧ W = w') := fun W hb => h.few c hf hb
  have H' : Hid (∀ W, Below w.heap.size w W → Calls Tryd.prog 9 #[.slice A' n' c'] W fun e w' => e = .returned (.bool true) ∧ W = w') := fun W hb => h'.few c' hf' hb
  have G : Hid (∀ W, Below w.heap.size w W → Calls Tryd.prog 15 #[.slice A n c] W fun e w' => ∃ B d, e = .returned (.slice B n d) ∧ w'.ownsRow W.heap.size 39 2 (.slice B n d) n xs ∧ Below W.heap.size W w') := fun W hb => h.given c hf hb
  have G' : Hid (∀ W, Below w.heap.size w W → Calls Tryd.prog 15 #[.slice A' n' c'] W fun e w' => ∃ B d, e = .returned (.slice B n' d) ∧ w'.ownsRow W.heap.size 39 2 (.slice B n' d) n' xs' ∧ Below W.heap.size W w') := fun W hb => h'.given c' hf' hb
  have O : Hid (∀ W base B d, Below w.heap.size w W → W.ownsRow base 39 2 (.slice B n d) n xs → Calls Tryd.prog 17 #[.slice B n d] W fun e w' => ∃ g, e = .returned (.tuple #[.pointer (some ⟨g, 0, none⟩), .int .i64 0]) ∧ W.heap.size ≤ g ∧ Img w' g S (cnt S D) D ∧ Below W.heap.size W w') := fun W base B d hb ho => h.ok hT hf hk hb ho
  have O' : Hid (∀ W base B d, Below w.heap.size w W → W.ownsRow base 39 2 (.slice B n' d) n' xs' → Calls Tryd.prog 17 #[.slice B n' d] W fun e w' => ∃ g, e = .returned (.tuple #[.pointer (some ⟨g, 0, none⟩), .int .i64 0]) ∧ W.heap.size ≤ g ∧ Img w' g S' (cnt S' D') D' ∧ Below W.heap.size W w') := fun W base B d hb ho => h'.ok hT hf' hk' hb ho
  have F : Hid (∀ W, Below w.heap.size w W → Calls Tryd.prog 18 #[.slice A n c] W fun e w' => ∃ A2 c2, e = .returned (.tuple #[.slice A2 (cnt S D) c2, .int .i64 0]) ∧ cnt S D ≤ c2 ∧ Rd w' (fun _ => True) A2 (cl (seg S D 0 65536)) ∧ Below W.heap.size W w') := fun W hb => h.rok c hT hf hk hb
  have F' : Hid (∀ W, Below w.heap.size w W → Calls Tryd.prog 18 #[.slice A' n' c'] W fun e w' => ∃ A2 c2, e = .returned (.tuple #[.slice A2 (cnt S' D') c2, .int .i64 0]) ∧ cnt S' D' ≤ c2 ∧ Rd w' (fun _ => True) A2 (cl (seg S' D' 0 65536)) ∧ Below W.heap.size W w') := fun W hb => h'.rok c' hT hf' hk' hb
  have HT := Lib.hid hT
  have hb0 : Hid (∀ o m, Below w.heap.size w ((w.alloc o).drewN m)) := fun o m => below_drewN ((Below.refl _ _).alloc (Nat.le_refl _) _) _
  obtain ⟨x, hx⟩ : ∃ x, decide (seg S D 0 65536 = seg S' D' 0 65536) = x := ⟨_, rfl⟩
  have HX := Lib.hid hx
  have d1 : (x == x) = true := beq_self_eq_true x
  obtain ⟨k, hpk⟩ : ∃ k, pcode S (wrap64 z) [y] = k := ⟨_, rfl⟩
  have HP := Lib.hid hpk
  obtain ⟨b, hbk⟩ : ∃ b, ((k : Int) != 0) = b := ⟨_, rfl⟩
  have HD : Hid (decide (seg S D 0 65536 = seg (pS S (wrap64 z) [y]) (pD S D (wrap64 z) [y]) 0 65536) = b) := by rw [Hid, put_differs, hpk, hbk]
  have d4 : (b == b) = true := beq_self_eq_true b
  clear h hT hf h' hf' hk hk' hx hpk
  go_enter Tryd.func8, Tryd.ntmps8
  go_wp2
  go_quiet (fail)
  go_wp2_with (first
    | (go_at_call 9; refine (H.out _ (hb0.out _ _)).mono ?_; rintro e w' ⟨rfl, rfl⟩; clear H)
    | (go_at_call 9; refine (H'.out _ (hb0.out _ _)).mono ?_; rintro e w' ⟨rfl, rfl⟩; clear H')
    | (go_at_call 15; refine (G.out _ (hb0.out _ _)).mono ?_; rintro e w1 ⟨B, d, rfl, ho, hb⟩; have HO := Lib.hid ho; have HB1 := Lib.hid ((hb0.out _ _).trans (hb.mono (hb0.out _ _).size)); clear ho hb G hb0)
    | (go_at_call 17; refine (O.out _ _ _ _ HB1.out HO.out).mono ?_; rintro e w2 ⟨g, rfl, _, hI, hb⟩; have HI2 := Lib.hid hI; have HB2 := Lib.hid (HB1.out.trans (hb.mono HB1.out.size)); clear hb O hI HO)
    | (go_at_call 15; refine (G'.out _ HB2.out).mono ?_; rintro e w3 ⟨B', d', rfl, ho, hb⟩; have HO' := Lib.hid ho; have HI3 := Lib.hid (HI2.out.after hb); have HB3 := Lib.hid (HB2.out.trans (hb.mono HB2.out.size)); clear ho hb G' HI2)
    | (go_at_call 17; refine (O'.out _ _ _ _ HB3.out HO'.out).mono ?_; rintro e w4 ⟨g', rfl, _, hI, hb⟩; have HJ4 := Lib.hid hI; have HI4 := Lib.hid (HI3.out.after hb); have HB4 := Lib.hid (HB3.out.trans (hb.mono HB3.out.size)); clear hb O' hI HI3 HO')
    | (go_at_call 18; refine (F.out _ HB4.out).mono ?_; rintro e w5 ⟨A2, c2, rfl, hc, hr, hb⟩; have HC := Lib.hid hc; have HR5 := Lib.hid hr; have HJ5 := Lib.hid (HJ4.out.after hb); have HI5 := Lib.hid (HI4.out.after hb); have HB5 := Lib.hid (HB4.out.trans (hb.mono HB4.out.size)); clear hb hc hr F HI4 HJ4)
    | (go_at_call 18; refine (F'.out _ HB5.out).mono ?_; rintro e w6 ⟨A3, c3, rfl, hc, hr, hb⟩; have HB6 := Lib.hid (HB5.out.trans (hb.mono HB5.out.size)); have HS : Hid (SSt w w6 g g' S S' D D' A2 A3 c2 c3) := ⟨HB6.out, HI5.out.after hb, HJ5.out.after hb, HR5.out.after hb, hr, HC.out, HT.out.after HB6.out⟩; clear hb hc hr F' HI5 HJ5 HR5)
    | (go_at_call 24; refine (HS.out.clone).mono ?_; rintro e w7 ⟨N, rfl, hN, hI, hb⟩; have HN := Lib.hid hN; have HK7 := Lib.hid hI; have HB7 := Lib.hid hb; clear hb hI hN)
    | (go_at_call 22; refine (HS.out.imsame2 HB7.out HK7.out (decide_eq_true rfl)).mono ?_; rintro e w8 ⟨rfl, hb⟩; have HK8 := Lib.hid (HK7.out.after hb); have HB8 := Lib.hid (HB7.out.trans (hb.mono HB7.out.size)); clear hb HK7)
    | (go_at_call 13; refine (HS.out.put HB8.out HN.out HK8.out (wrap64 z) y HP.out).mono ?_; rintro e w9 ⟨rfl, hI, hb⟩; have HK9 := Lib.hid hI; have HB9 := Lib.hid hb; clear hb hI HK8)
    | (go_at_call 10; refine (alive_any _ (HS.out.tab.after HB9.out)).mono ?_; rintro e w10 ⟨rfl, hb⟩; have HK10 := Lib.hid (HK9.out.after hb); have HB10 := Lib.hid (HB9.out.trans (hb.mono HB9.out.size)); clear hb HK9)
    | (go_at_call 22; refine (HS.out.imsame HB10.out HX.out).mono ?_; rintro e w11 ⟨rfl, hb⟩; have HK11 := Lib.hid (HK10.out.after hb); have HB11 := Lib.hid (HB10.out.trans (hb.mono HB10.out.size)); clear hb HK10)
    | (go_at_call 25; refine (HS.out.rsame HB11.out HX.out).mono ?_; rintro e w12 ⟨rfl, hb⟩; have HK12 := Lib.hid (HK11.out.after hb); have HB12 := Lib.hid (HB11.out.trans (hb.mono HB11.out.size)); clear hb HK11)
    | (go_at_call 14; refine (HS.out.same HB12.out).mono ?_; rintro e w13 ⟨rfl, hb⟩; have HK13 := Lib.hid (HK12.out.after hb); have HB13 := Lib.hid (HB12.out.trans (hb.mono HB12.out.size)); clear hb HK12)
    | (go_at_call 22; refine (HS.out.imsame2 HB13.out HK13.out HD.out).mono ?_; rintro e w14 ⟨rfl, hb⟩; have HB14 := Lib.hid (HB13.out.trans (hb.mono HB13.out.size)); clear hb HK13))
  go_ret
  exact ⟨rfl, HS.out.below.trans (HB14.out.mono HS.out.below.size)⟩
theorem same_law (h : Lst w A xs R n) (h' : Lst w A' xs' R' n') (hT : Tab w) :
    Calls Tryd.prog 8 #[.agg #[.slice A n c, .slice A' n' c'], .int .u16 z, .int .u8 (y.toNat : Int)] w fun e w' => e = .returned (.bool true) ∧ Below w.heap.size w w' := by
  cases hf : few R
  · exact same_few1 h hT hf
  · cases hf' : few R'
    · exact same_few2 h h' hT hf hf'
    · obtain ⟨k, hk⟩ : ∃ k, ofR aS0 aD0 R = k := ⟨_, rfl⟩
      obtain ⟨k, S, D⟩ := k
      obtain ⟨k', hk'⟩ : ∃ k, ofR aS0 aD0 R' = k := ⟨_, rfl⟩
      obtain ⟨k', S', D'⟩ := k'
      by_cases h0 : k = 0
      · subst h0
        by_cases h1 : k' = 0
        · subst h1
          exact same_main h h' hT hf hf' hk hk'
        · exact same_code2 h h' hT hf hf' hk hk' h1
      · exact same_code1 h h' hT hf hf' hk h0 hk'
end
end Go.Proofs.YtmkgppbnhkihjaaDoor
