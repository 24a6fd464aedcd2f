/- The walk of the statement ImageGets. -/
import Derived.Test.YtmkgppbnhkihjaaDoorGet
namespace Go.Proofs.YtmkgppbnhkihjaaDoor
open Go.RowKit Go.Shelf

theorem gets_few (A : Option Addr) (xs : List Value) (R : List (Int × List UInt8)) (n c : Nat) (A' : Option Addr) (m c' : Nat) (w : World) (p q : Nat → Prop) (hn : n = R.length) (hm : (n : Int) ≤ 281474976710656) (h : Rd w p A xs) (hR : RunVals w q xs R) (hT : Tab w) (hf : few R = false) :
    Calls Tryd.prog 5 #[.slice A n c, .slice A' m c'] w fun e w' => e = .returned (.bool true) ∧ Below w.heap.size w w' := by
  have C1 := Lib.hid (few_any A xs R n c w p q hn hm h hR)
  rw [hf] at C1
  have C2 := Lib.hid (alive_any w hT)
  clear h hR hT hf hn
  go_enter Tryd.func5, Tryd.ntmps5
  go_wp2_with (first
    | (go_at_call 9; refine C1.out.mono ?_; rintro e w' ⟨rfl, rfl⟩)
    | (go_at_call 10; refine C2.out.mono ?_; rintro e w1 ⟨rfl, hb⟩; have HB := Lib.hid hb; clear hb))
  go_ret
  exact ⟨rfl, HB.out⟩
theorem gets_many (A : Option Addr) (xs : List Value) (R : List (Int × List UInt8)) (n c : Nat) (A' : Option Addr) (m c' : Nat) (w : World) (p q : Nat → Prop) (hn : n = R.length) (hm : (n : Int) ≤ 281474976710656) (h : Rd w p A xs) (hR : RunVals w q xs R) (hT : Tab w) (hf : few R = true) (hmm : 100 < m) :
    Calls Tryd.prog 5 #[.slice A n c, .slice A' m c'] w fun e w' => e = .returned (.bool true) ∧ Below w.heap.size w w' := by
  have C1 := Lib.hid (few_any A xs R n c w p q hn hm h hR)
  rw [hf] at C1
  have C2 := Lib.hid (alive_any w hT)
  have d1 : decide ((100 : Int) < (m : Int)) = true := by simp; omega
  clear h hR hT hf hn hmm
  go_enter Tryd.func5, Tryd.ntmps5
  go_wp2_with (first
    | (go_at_call 9; refine C1.out.mono ?_; rintro e w' ⟨rfl, rfl⟩)
    | (go_at_call 10; refine C2.out.mono ?_; rintro e w1 ⟨rfl, hb⟩; have HB := Lib.hid hb; clear hb))
  go_ret
  exact ⟨rfl, HB.out⟩

section
variable {A : Option Addr} {xs : List Value} {R : List (Int × List UInt8)} {n c : Nat} {w : World} {p q : Nat → Prop}
theorem of_code {k : Nat} {S0 : Nat → Bool} {D0 : Nat → UInt8} (hk : ofR aS0 aD0 R = (k, S0, D0)) (hk0 : k ≠ 0) (hn : n = R.length) (hm : (n : Int) ≤ 60) (h : Rd w p A xs) (hR : RunVals w q xs R) (hl : ∀ r ∈ R, r.2.length ≤ 3000) (hT : Tab w) :
    Calls Tryd.prog 17 #[.slice A n c] w fun e w' => e = .returned (.tuple #[.pointer none, .int .i64 k]) ∧ Below w.heap.size w w' :=
  (of_any A xs R n c w p q hn hm h hR hl hT).mono fun e w' ⟨hb, hx⟩ => by
    rcases hx with ⟨k', S, D, e1, _, he⟩ | ⟨g, S, D, e1, _⟩
    · rw [hk] at e1
      injection e1 with e1 _
      rw [e1]
      exact ⟨he, hb⟩
    · rw [hk] at e1
      injection e1 with e1 _
      exact absurd e1 hk0
theorem of_ok {S0 : Nat → Bool} {D0 : Nat → UInt8} (hk : ofR aS0 aD0 R = (0, S0, D0)) (hn : n = R.length) (hm : (n : Int) ≤ 60) (h : Rd w p A xs) (hR : RunVals w q xs R) (hl : ∀ r ∈ R, r.2.length ≤ 3000) (hT : Tab w) :
    Calls Tryd.prog 17 #[.slice A n c] w fun e w' => ∃ g, e = .returned (.tuple #[.pointer (some ⟨g, 0, none⟩), .int .i64 0]) ∧ w.heap.size ≤ g ∧ Img w' g S0 (cnt S0 D0) D0 ∧ Below w.heap.size w w' :=
  (of_any A xs R n c w p q hn hm h hR hl hT).mono fun e w' ⟨hb, hx⟩ => by
    rcases hx with ⟨k', S, D, e1, k0, he⟩ | ⟨g, S, D, e1, e2, e3, e4⟩
    · rw [hk] at e1
      injection e1 with e1 _
      exact absurd e1.symm k0
    · rw [hk] at e1
      injection e1 with _ e1
      injection e1 with f1 f2
      subst f1; subst f2
      exact ⟨g, e2, e3, e4, hb⟩
theorem rof_code {k : Nat} {S0 : Nat → Bool} {D0 : Nat → UInt8} (hk : ofR aS0 aD0 R = (k, S0, D0)) (hk0 : k ≠ 0) (hn : n = R.length) (hm : (n : Int) ≤ 60) (h : Rd w p A xs) (hR : RunVals w q xs R) (hl : ∀ r ∈ R, r.2.length ≤ 3000) (hT : Tab w) :
    Calls Tryd.prog 18 #[.slice A n c] w fun e w' => e = .returned (.tuple #[.slice none 0 0, .int .i64 k]) ∧ Below w.heap.size w w' :=
  (rof_any A xs R n c w p q hn hm h hR hl hT).mono fun e w' ⟨hb, hx⟩ => by
    rcases hx with ⟨k', S, D, e1, _, he⟩ | ⟨A2, c2, S, D, e1, _⟩
    · rw [hk] at e1
      injection e1 with e1 _
      rw [e1]
      exact ⟨he, hb⟩
    · rw [hk] at e1
      injection e1 with e1 _
      exact absurd e1 hk0
theorem rof_ok {S0 : Nat → Bool} {D0 : Nat → UInt8} (hk : ofR aS0 aD0 R = (0, S0, D0)) (hn : n = R.length) (hm : (n : Int) ≤ 60) (h : Rd w p A xs) (hR : RunVals w q xs R) (hl : ∀ r ∈ R, r.2.length ≤ 3000) (hT : Tab w) :
    Calls Tryd.prog 18 #[.slice A n c] w fun e w' => ∃ A2 c2, e = .returned (.tuple #[.slice A2 (cnt S0 D0) c2, .int .i64 0]) ∧ cnt S0 D0 ≤ c2 ∧ Rd w' (fun _ => True) A2 (cl (seg S0 D0 0 65536)) ∧ Below w.heap.size w w' :=
  (rof_any A xs R n c w p q hn hm h hR hl hT).mono fun e w' ⟨hb, hx⟩ => by
    rcases hx with ⟨k', S, D, e1, k0, he⟩ | ⟨A2, c2, S, D, e1, e2, e3, e4⟩
    · rw [hk] at e1
      injection e1 with e1 _
      exact absurd e1.symm k0
    · rw [hk] at e1
      injection e1 with _ e1
      injection e1 with f1 f2
      subst f1; subst f2
      exact ⟨A2, c2, e2, e3, e4, hb⟩
end

/-- The answer in two slots. -/
def gotB (o : Option UInt8) : Int := match o with | some x => (x.toNat : Int) | none => 0
def gotK (o : Option UInt8) : Bool := match o with | some _ => true | none => false
theorem got_eq (o : Option UInt8) : got o = .tuple #[.int .u8 (gotB o), .bool (gotK o)] := by cases o <;> rfl
theorem get_two (g n : Nat) (a : Int) (S : Nat → Bool) (D : Nat → UInt8) (w : World) (hI : Img w g S n D) :
    Calls Tryd.prog 19 #[.pointer (some ⟨g, 0, none⟩), .int .i64 a] w fun e w' => e = .returned (.tuple #[.int .u8 (gotB (gv S D a)), .bool (gotK (gv S D a))]) ∧ w = w' := by
  have := get_any g n a S D w hI
  rw [got_eq] at this
  exact this
theorem rget_two (A : Option Addr) (S : Nat → Bool) (D : Nat → UInt8) (c : Nat) (a : Int) (w : World) (p : Nat → Prop) (h : Rd w p A (cl (seg S D 0 65536))) :
    Calls Tryd.prog 20 #[.slice A (cnt S D) c, .int .i64 a] w fun e w' => e = .returned (.tuple #[.int .u8 (gotB (gv S D a)), .bool (gotK (gv S D a))]) ∧ w = w' := by
  have := rget_any A (seg S D 0 65536) (cnt S D) c a w p rfl (by have := seg_le S D 0 65536; unfold cnt; omega) h
  rw [rget_gv, got_eq] at this
  exact this
theorem rget_empty (a : Int) (w : World) : Calls Tryd.prog 20 #[.slice none 0 0, .int .i64 a] w fun e w' => e = .returned (.tuple #[.int .u8 0, .bool false]) ∧ w = w' :=
  rget_any none [] 0 0 a w (fun _ => True) rfl (by decide) (Rd.nil _ _ _)
theorem get_none (a : Int) (w : World) : Calls Tryd.prog 19 #[.pointer none, .int .i64 a] w fun e w' => e = .returned (.tuple #[.int .u8 0, .bool false]) ∧ w = w' := get_nil a w

set_option maxHeartbeats 2000000 in
set_option maxRecDepth 100000 in
/-- Of has a code: no image, no cells. -/
theorem gets_none (A : Option Addr) (xs : List Value) (R : List (Int × List UInt8)) (n c : Nat) (A' : Option Addr) (m c' : Nat) (zs : List Int) (w : World) (p q p' : Nat → Prop) (hn : n = R.length) (h : Rd w p A xs) (hR : RunVals w q xs R) (hT : Tab w) (hf : few R = true) (hmm : m ≤ 100) (hz : zs.length = m) (hZ : Rd w p' A' (zs.map (Value.int .i64)))
    (k : Nat) (S0 : Nat → Bool) (D0 : Nat → UInt8) (hk : ofR aS0 aD0 R = (k, S0, D0)) (hk0 : k ≠ 0) :
    Calls Tryd.prog 5 #[.slice A n c, .slice A' m c'] w fun e w' => e = .returned (.bool true) ∧ Below w.heap.size w w' := by
  have hfs := few_spec hf
  have C1 := Lib.hid (few_any A xs R n c w p q hn (by have := hfs.1; omega) h hR)
  rw [hf] at C1
  have hn60 : (n : Int) ≤ 60 := by have := hfs.1; omega
  have C2 := Lib.hid (given_any A xs R n c w p q hn hn60 h hR)
  have C3 : Hid (∀ W B d, Below w.heap.size w W → W.ownsRow w.heap.size 39 2 (.slice B n d) n xs → Calls Tryd.prog 17 #[.slice B n d] W fun e w' => e = .returned (.tuple #[.pointer none, .int .i64 k]) ∧ Below W.heap.size W w') := fun W B d hb ho =>
    of_code (p := fun _ => True) hk hk0 hn hn60 (Rd.of_own ho (fun _ _ _ => trivial)) (hR.after hb) hfs.2 (hT.after hb)
  have C4 : Hid (∀ W, Below w.heap.size w W → Calls Tryd.prog 18 #[.slice A n c] W fun e w' => e = .returned (.tuple #[.slice none 0 0, .int .i64 k]) ∧ Below W.heap.size W w') := fun W hb => rof_code hk hk0 hn hn60 (h.after hb) (hR.after hb) hfs.2 (hT.after hb)
  have C5 : Hid (∀ W, Below w.heap.size w W → Calls Tryd.prog 10 #[] W fun e w' => e = .returned (.bool true) ∧ Below W.heap.size W w') := fun W hb => alive_any W (hT.after hb)
  have HZ := Lib.hid hZ
  have HZL := Lib.hid hz
  have d1 : decide ((100 : Int) < (m : Int)) = false := by simp; omega
  have d2 : (((k : Nat) : Int) != (k : Int)) = false := bne_self_eq_false _
  have d3 : (((k : Nat) : Int) != 0) = true := by simp; exact hk0
  have hm2 : (m : Int) ≤ 100 := by omega
  clear h hR hT hf hn hz hZ hk hfs hk0 hmm
  go_enter Tryd.func5, Tryd.ntmps5
  go_wp2_with (first
    | (go_at_call 9; refine C1.out.mono ?_; rintro e w' ⟨rfl, rfl⟩)
    | (go_at_call 15; refine C2.out.mono ?_; rintro e w1 ⟨B, d, rfl, ho, hb⟩; have HO := Lib.hid ho; have HB1 := Lib.hid hb; clear ho hb)
    | (go_at_call 17; refine (C3.out _ _ _ HB1.out HO.out).mono ?_; rintro e w2 ⟨rfl, hb⟩; have HB2 := Lib.hid (HB1.out.trans (hb.mono HB1.out.size)); clear hb)
    | (go_at_call 18; refine (C4.out _ HB2.out).mono ?_; rintro e w3 ⟨rfl, hb⟩; have HB3 := Lib.hid (HB2.out.trans (hb.mono HB2.out.size)); clear hb))
  go_loop [47] (fun v => ∃ j : Nat, j ≤ m ∧ v = .int .i64 j) (fun v => m - (intOf v).toNat)
  case atStart => exact ⟨0, Nat.zero_le _, rfl⟩
  case round =>
    obtain ⟨j, hj, rfl⟩ := hrel
    by_cases hlt : j < m
    · have hjz : j < (zs.map (Value.int .i64)).length := by rw [List.length_map, HZL.out]; exact hlt
      obtain ⟨b, o, rfl, _, hcell⟩ := (HZ.out.after HB3.out).ex (fun e => by rw [e] at hjz; simp at hjz)
      have hc := hcell j _ (List.getElem?_eq_getElem hjz)
      rw [List.getElem_map] at hc
      obtain ⟨z, hz⟩ : ∃ z, zs[j]'(by rw [HZL.out]; exact hlt) = z := ⟨_, rfl⟩
      rw [hz] at hc
      clear hcell hz hjz
      go_wp2_with (first
        | (go_at_call 19; refine (get_none z _).mono ?_; rintro e w' ⟨rfl, rfl⟩)
        | (go_at_call 20; refine (rget_empty z _).mono ?_; rintro e w' ⟨rfl, rfl⟩))
      exact ⟨⟨j + 1, by omega, by go_num⟩, by simp [intOf]; omega⟩
    · go_wp2_with (go_at_call 10; refine (C5.out _ HB3.out).mono ?_; rintro e w4 ⟨rfl, hb⟩; have HB4 := Lib.hid (HB3.out.trans (hb.mono HB3.out.size)); clear hb)
      go_ret
      exact ⟨rfl, HB4.out⟩

set_option maxHeartbeats 2000000 in
set_option maxRecDepth 100000 in
/-- Of has no code. -/
theorem gets_some (A : Option Addr) (xs : List Value) (R : List (Int × List UInt8)) (n c : Nat) (A' : Option Addr) (m c' : Nat) (zs : List Int) (w : World) (p q p' : Nat → Prop) (hn : n = R.length) (h : Rd w p A xs) (hR : RunVals w q xs R) (hT : Tab w) (hf : few R = true) (hmm : m ≤ 100) (hz : zs.length = m) (hZ : Rd w p' A' (zs.map (Value.int .i64)))
    (S0 : Nat → Bool) (D0 : Nat → UInt8) (hk : ofR aS0 aD0 R = (0, S0, D0)) :
    Calls Tryd.prog 5 #[.slice A n c, .slice A' m c'] w fun e w' => e = .returned (.bool true) ∧ Below w.heap.size w w' := by
  have hfs := few_spec hf
  have C1 := Lib.hid (few_any A xs R n c w p q hn (by have := hfs.1; omega) h hR)
  rw [hf] at C1
  have hn60 : (n : Int) ≤ 60 := by have := hfs.1; omega
  have C2 := Lib.hid (given_any A xs R n c w p q hn hn60 h hR)
  have C3 : Hid (∀ W B d, Below w.heap.size w W → W.ownsRow w.heap.size 39 2 (.slice B n d) n xs → Calls Tryd.prog 17 #[.slice B n d] W fun e w' => ∃ g, e = .returned (.tuple #[.pointer (some ⟨g, 0, none⟩), .int .i64 0]) ∧ W.heap.size ≤ g ∧ Img w' g S0 (cnt S0 D0) D0 ∧ Below W.heap.size W w') := fun W B d hb ho =>
    of_ok (p := fun _ => True) hk hn hn60 (Rd.of_own ho (fun _ _ _ => trivial)) (hR.after hb) hfs.2 (hT.after hb)
  have C4 : Hid (∀ W, Below w.heap.size w W → Calls Tryd.prog 18 #[.slice A n c] W fun e w' => ∃ A2 c2, e = .returned (.tuple #[.slice A2 (cnt S0 D0) c2, .int .i64 0]) ∧ cnt S0 D0 ≤ c2 ∧ Rd w' (fun _ => True) A2 (cl (seg S0 D0 0 65536)) ∧ Below W.heap.size W w') := fun W hb => rof_ok hk hn hn60 (h.after hb) (hR.after hb) hfs.2 (hT.after hb)
  have C5 : Hid (∀ W, Below w.heap.size w W → Calls Tryd.prog 10 #[] W fun e w' => e = .returned (.bool true) ∧ Below W.heap.size W w') := fun W hb => alive_any W (hT.after hb)
  have HT := Lib.hid hT
  have HZ := Lib.hid hZ
  have HZL := Lib.hid hz
  have d1 : decide ((100 : Int) < (m : Int)) = false := by simp; omega
  have hm2 : (m : Int) ≤ 100 := by omega
  clear h hR hT hf hn hz hZ hk hfs hmm
  go_enter Tryd.func5, Tryd.ntmps5
  go_wp2_with (first
    | (go_at_call 9; refine C1.out.mono ?_; rintro e w' ⟨rfl, rfl⟩)
    | (go_at_call 15; refine C2.out.mono ?_; rintro e w1 ⟨B, d, rfl, ho, hb⟩; have HO := Lib.hid ho; have HB1 := Lib.hid hb; clear ho hb)
    | (go_at_call 17; refine (C3.out _ _ _ HB1.out HO.out).mono ?_; rintro e w2 ⟨g, rfl, hg, hI, hb⟩; have HI2 := Lib.hid hI; have HB2 := Lib.hid (HB1.out.trans (hb.mono HB1.out.size)); clear hb hI hg)
    | (go_at_call 18; refine (C4.out _ HB2.out).mono ?_; rintro e w3 ⟨A2, c2, rfl, hc2, hr2, hb⟩; have HC2 := Lib.hid hc2; have HR2 := Lib.hid hr2; have HI3 := Lib.hid (HI2.out.after hb); have HB3 := Lib.hid (HB2.out.trans (hb.mono HB2.out.size)); clear hb hc2 hr2))
  go_loop [47] (fun v => ∃ j : Nat, j ≤ m ∧ v = .int .i64 j) (fun v => m - (intOf v).toNat)
  case atStart => exact ⟨0, Nat.zero_le _, rfl⟩
  case round =>
    obtain ⟨j, hj, rfl⟩ := hrel
    by_cases hlt : j < m
    · have hjz : j < (zs.map (Value.int .i64)).length := by rw [List.length_map, HZL.out]; exact hlt
      obtain ⟨b, o, rfl, _, hcell⟩ := (HZ.out.after HB3.out).ex (fun e => by rw [e] at hjz; simp at hjz)
      have hc := hcell j _ (List.getElem?_eq_getElem hjz)
      rw [List.getElem_map] at hc
      obtain ⟨z, hz⟩ : ∃ z, zs[j]'(by rw [HZL.out]; exact hlt) = z := ⟨_, rfl⟩
      rw [hz] at hc
      have d3 : (gotB (gv S0 D0 z) != gotB (gv S0 D0 z)) = false := bne_self_eq_false _
      have d4 : (gotK (gv S0 D0 z) != gotK (gv S0 D0 z)) = false := bne_self_eq_false _
      clear hcell hz hjz
      go_wp2_with (first
        | (go_at_call 19; refine (get_two g _ z S0 D0 _ HI3.out).mono ?_; rintro e w' ⟨rfl, rfl⟩)
        | (go_at_call 20; refine (rget_two A2 S0 D0 c2 z _ _ HR2.out).mono ?_; rintro e w' ⟨rfl, rfl⟩))
      exact ⟨⟨j + 1, by omega, by go_num⟩, by simp [intOf]; omega⟩
    · go_wp2_with (first
        | (go_at_call 10; refine (C5.out _ HB3.out).mono ?_; rintro e w4 ⟨rfl, hb⟩; have HB4 := Lib.hid (HB3.out.trans (hb.mono HB3.out.size)); have HI4 := Lib.hid (HI3.out.after hb); have HR4 := Lib.hid (HR2.out.after hb); clear hb)
        | (go_at_call 14; refine (same_one g S0 D0 A2 c2 _ _ _ rfl HC2.out HI4.out (HT.out.after HB4.out) HR4.out).mono ?_; rintro e w5 ⟨rfl, hb⟩; have HB5 := Lib.hid (HB4.out.trans (hb.mono HB4.out.size)); clear hb))
      go_ret
      exact ⟨rfl, HB5.out⟩
end Go.Proofs.YtmkgppbnhkihjaaDoor
