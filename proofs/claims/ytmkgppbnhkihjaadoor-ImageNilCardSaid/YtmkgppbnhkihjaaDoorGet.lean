/- The walk of Get of an image, beside Get of the reference. -/
import Derived.Test.YtmkgppbnhkihjaaDoorRof
namespace Go.Proofs.YtmkgppbnhkihjaaDoor
open Go.RowKit Go.Shelf

/-- What Get answers. -/
def gv (S : Nat → Bool) (D : Nat → UInt8) (a : Int) : Option UInt8 := if 0 ≤ a ∧ a < 65536 ∧ S a.toNat = true then some (D a.toNat) else none
theorem rget_gv (S : Nat → Bool) (D : Nat → UInt8) (a : Int) : rget (seg S D 0 65536) a = gv S D a := by
  by_cases h : 0 ≤ a ∧ a < 65536
  · obtain ⟨b, rfl⟩ := Int.eq_ofNat_of_zero_le h.1
    have h3 := seg_three S D b 1 (by omega)
    have hfi : fi (seg S D 0 65536) b = (seg S D 0 b).length := by
      rw [h3, List.append_assoc]
      refine fi_split _ _ _ (fun c hc => seg_low c hc) fun c hc => ?_
      rcases List.mem_append.1 hc with hc | hc
      · have := seg_mem S D b 1 c hc; omega
      · exact seg_high c hc
    unfold rget gv
    rw [hfi, Int.toNat_natCast]
    cases hS : S b
    · have e1 : seg S D b 1 = [] := by simp [seg, hS]
      rw [h3, e1, List.append_nil, if_neg (by simp), List.getElem?_append_right (Nat.le_refl _), Nat.sub_self]
      cases hh : (seg S D (b + 1) (65536 - (b + 1)))[0]? with
      | none => rfl
      | some c =>
        have hm := seg_mem S D (b + 1) (65536 - (b + 1)) c (List.mem_of_getElem? hh)
        show (if (c.1 : Int) = b then some c.2 else none) = none
        rw [if_neg (by omega)]
    · have e1 : seg S D b 1 = [(b, D b)] := by simp [seg, hS]
      rw [h3, e1, List.append_assoc, List.getElem?_append_right (Nat.le_refl _), Nat.sub_self, if_pos ⟨by omega, by omega, rfl⟩]
      simp
  · have hg : gv S D a = none := by unfold gv; rw [if_neg (fun h2 => h ⟨h2.1, h2.2.1⟩)]
    rw [hg]
    unfold rget
    cases hh : (seg S D 0 65536)[fi (seg S D 0 65536) a]? with
    | none => rfl
    | some c =>
      have hm := seg_mem S D 0 65536 c (List.mem_of_getElem? hh)
      show (if (c.1 : Int) = a then some c.2 else none) = none
      rw [if_neg (by omega)]

theorem get_nil (a : Int) (w : World) : Calls Tryd.prog 19 #[.pointer none, .int .i64 a] w fun e w' => e = .returned (got none) ∧ w = w' := by
  go_enter Tryd.func19, Tryd.ntmps19
  go_wp2
  go_ret2
  exact ⟨rfl, rfl⟩
theorem get_out (g : Nat) (a : Int) (w : World) (h : ¬ (0 ≤ a ∧ a < 65536)) : Calls Tryd.prog 19 #[.pointer (some ⟨g, 0, none⟩), .int .i64 a] w fun e w' => e = .returned (got none) ∧ w = w' := by
  by_cases h0 : a < 0
  · have d1 : decide (a < 0) = true := by simpa using h0
    go_enter Tryd.func19, Tryd.ntmps19
    go_wp2
    go_ret2
    exact ⟨rfl, rfl⟩
  · have d1 : decide (a < 0) = false := by simp; omega
    have d2 : decide ((65536 : Int) ≤ a) = true := by simp; omega
    clear h h0
    go_enter Tryd.func19, Tryd.ntmps19
    go_wp2
    go_ret2
    exact ⟨rfl, rfl⟩
set_option maxRecDepth 100000 in
theorem get_in (g n a : Nat) (S : Nat → Bool) (D : Nat → UInt8) (w : World) (ha : (a : Int) < 65536) (hI : Img w g S n D) :
    Calls Tryd.prog 19 #[.pointer (some ⟨g, 0, none⟩), .int .i64 a] w fun e w' => e = .returned (got (if S a = true then some (D a) else none)) ∧ w = w' := by
  have C1 := Lib.hid (has_any g S a w ha hI.word)
  have hb := hI.byte a (by omega)
  have d1 : decide ((a : Int) < 0) = false := by simp
  have d2 : decide ((65536 : Int) ≤ (a : Int)) = false := by simp; omega
  clear hI
  cases hS : S a
  · rw [hS] at C1
    rw [if_neg (by simp)]
    clear hS hb
    go_enter Tryd.func19, Tryd.ntmps19
    go_wp2_with (go_at_call 31; refine C1.out.mono ?_; rintro e w1 ⟨rfl, rfl⟩)
    go_ret2
    exact ⟨rfl, rfl⟩
  · rw [hS] at C1
    rw [if_pos rfl]
    clear hS
    go_enter Tryd.func19, Tryd.ntmps19
    go_wp2_with (go_at_call 31; refine C1.out.mono ?_; rintro e w' ⟨rfl, rfl⟩)
    go_ret2
    exact ⟨rfl, rfl⟩
theorem get_any (g n : Nat) (a : Int) (S : Nat → Bool) (D : Nat → UInt8) (w : World) (hI : Img w g S n D) :
    Calls Tryd.prog 19 #[.pointer (some ⟨g, 0, none⟩), .int .i64 a] w fun e w' => e = .returned (got (gv S D a)) ∧ w = w' := by
  by_cases h : 0 ≤ a ∧ a < 65536
  · obtain ⟨b, rfl⟩ := Int.eq_ofNat_of_zero_le h.1
    refine (get_in g n b S D w h.2 hI).mono fun e w' ⟨he, hw⟩ => ⟨?_, hw⟩
    rw [he]
    unfold gv
    rw [Int.toNat_natCast]
    cases hS : S b
    · simp
    · rw [if_pos rfl, if_pos ⟨h.1, h.2, rfl⟩]
  · refine (get_out g a w h).mono fun e w' ⟨he, hw⟩ => ⟨?_, hw⟩
    rw [he]
    unfold gv
    rw [if_neg (fun h2 => h ⟨h2.1, h2.2.1⟩)]
end Go.Proofs.YtmkgppbnhkihjaaDoor
