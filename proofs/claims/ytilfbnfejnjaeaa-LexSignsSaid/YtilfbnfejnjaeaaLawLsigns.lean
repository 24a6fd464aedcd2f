/- The walks of Is of the package lex and of the statement LexSigns. -/
import Derived.Test.YtilfbnfejnjaeaaAlive16
import Derived.Deep.RegionWith
import Derived.Deep.RegionHeld3
namespace Go.Proofs.Ytilfbnfejnjaeaa
open Go.RowKit

/-- Strings as cells. -/
def ss (zs : List ByteArray) : List Value := zs.map .string
theorem ss_get {zs : List ByteArray} {k : Nat} {z : ByteArray} (h : zs[k]? = some z) : (ss zs)[k]? = some (.string z) := by simp [ss, h]
theorem Rd.str {w : World} {p : Nat → Prop} {A : Option Addr} {zs : List ByteArray} (h : Rd w p A (ss zs)) {k : Nat} {z : ByteArray} (hz : zs[k]? = some z) :
    ∃ b o, A = some ⟨b, o, none⟩ ∧ w.cell? ⟨b, o + k, none⟩ = some (.string z) := by
  have hne : ss zs ≠ [] := fun e => by have := ss_get hz; rw [e] at this; cases this
  obtain ⟨b, o, h1, _, h3⟩ := h.ex hne
  exact ⟨b, o, h1, h3 k _ (ss_get hz)⟩
/-- Is a token a sign with one of the texts? -/
def isOne (k : Int) (t : ByteArray) (zs : List ByteArray) : Bool := (k == 4) && Lib.containsS zs t
theorem cont_yes {t : ByteArray} {zs : List ByteArray} (h : t ∈ zs) : Lib.containsS zs t = true := (Lib.containsS_iff zs t).2 h
theorem cont_no {t : ByteArray} {zs : List ByteArray} (h : ¬ t ∈ zs) : Lib.containsS zs t = false := Bool.eq_false_iff.2 fun e => h ((Lib.containsS_iff zs t).1 e)
theorem str_ne {a b : ByteArray} (h : a ≠ b) : (a.toList == b.toList) = false := by
  apply beq_eq_false_iff_ne.2
  intro e
  apply h
  apply ByteArray.ext
  apply Array.toList_inj.1
  rwa [ByteArray.toList_eq, ByteArray.toList_eq] at e
set_option maxHeartbeats 1000000 in
theorem is_any (kd n at' : Int) (t : ByteArray) (A : Option Addr) (zs : List ByteArray) (m c : Nat) (w : World) (p : Nat → Prop) (hn : zs.length = m) (hm : (m : Int) ≤ 140737488355328) (h : Rd w p A (ss zs)) :
    Calls Try.prog 36 #[.agg #[.int .i64 kd, .string t, .int .i64 n, .int .i64 at'], .slice A m c] w fun e w' => e = .returned (.bool (isOne kd t zs)) ∧ Below w.heap.size w w' := by
  have H := Lib.hid h
  have HN := Lib.hid hn
  clear h hn
  obtain ⟨V, hV⟩ : ∃ V, isOne kd t zs = V := ⟨_, rfl⟩
  have HV := Lib.hid hV
  rw [hV]
  clear hV
  rcases Bool.eq_false_or_eq_true (kd == 4) with d1 | d1
  · go_enter Try.func36, Try.ntmps36
    go_wp2
    go_loop [9] (fun v => ∃ k : Nat, v = .int .i64 (k : Int) ∧ k ≤ m ∧ Hid (¬ t ∈ zs.take k)) (fun v => m - (intOf v).toNat)
    case atStart => exact ⟨0, rfl, Nat.zero_le _, by intro h; cases h⟩
    case round =>
      obtain ⟨k, rfl, hk, hN⟩ := hrel
      by_cases hlt : k < m
      · obtain ⟨z, hz⟩ : ∃ z, zs[k]? = some z := ⟨_, List.getElem?_eq_getElem (by rw [HN.out]; exact hlt)⟩
        obtain ⟨b, o, rfl, hc⟩ := H.out.str hz
        have hlb := lt_of_cell hc
        by_cases htz : t = z
        · have d2 : (t.toList == z.toList) = true := by rw [htz]; exact beq_self_eq_true _
          obtain rfl : V = true := by
            rw [← HV.out]
            unfold isOne
            rw [d1, cont_yes (htz ▸ List.mem_of_getElem? hz)]
            rfl
          clear hz htz
          go_wp2
          go_ret
          exact ⟨rfl, (Below.refl _ _).alloc (Nat.le_refl _) _⟩
        · have d2 : (t.toList == z.toList) = false := str_ne htz
          have HM : Hid (¬ t ∈ zs.take (k + 1)) := by
            intro h
            rw [take_at hz] at h
            rcases List.mem_append.1 h with h | h
            · exact hN.out h
            · exact htz (List.mem_singleton.1 h)
          clear hz htz
          go_wp2
          go_round
          case rel => exact ⟨k + 1, by go_num, by omega, HM.out⟩
          case measure => simp [intOf]; omega
      · obtain rfl : k = m := by omega
        obtain rfl : V = false := by
          rw [← HV.out]
          unfold isOne
          have := hN.out
          rw [List.take_of_length_le (by rw [HN.out]; exact Nat.le_refl _)] at this
          rw [cont_no this, Bool.and_false]
        go_wp2
        go_ret
        exact ⟨rfl, (Below.refl _ _).alloc (Nat.le_refl _) _⟩
  · obtain rfl : V = false := by
      rw [← HV.out]
      unfold isOne
      rw [d1]
      rfl
    go_enter Try.func36, Try.ntmps36
    go_wp2
    go_loop [9] (fun v => ∃ k : Nat, v = .int .i64 (k : Int) ∧ k ≤ m) (fun v => m - (intOf v).toNat)
    case atStart => exact ⟨0, rfl, Nat.zero_le _⟩
    case round =>
      obtain ⟨k, rfl, hk⟩ := hrel
      by_cases hlt : k < m
      · obtain ⟨z, hz⟩ : ∃ z, zs[k]? = some z := ⟨_, List.getElem?_eq_getElem (by rw [HN.out]; exact hlt)⟩
        obtain ⟨b, o, rfl, hc⟩ := H.out.str hz
        have hlb := lt_of_cell hc
        clear hz
        go_wp2
        go_round
        case rel => exact ⟨k + 1, by go_num, by omega⟩
        case measure => simp [intOf]; omega
      · obtain rfl : k = m := by omega
        go_wp2
        go_ret
        exact ⟨rfl, (Below.refl _ _).alloc (Nat.le_refl _) _⟩
/-- slices.Contains over strings. -/
theorem contains_any (t : ByteArray) (A : Option Addr) (zs : List ByteArray) (m c : Nat) (w : World) (p : Nat → Prop) (hn : zs.length = m) (hm : m ≤ 9223372036854775807) (h : Rd w p A (ss zs)) :
    Calls Try.prog 37 #[.slice A m c, .string t] w fun e w' => e = .returned (.bool (Lib.containsS zs t)) ∧ w' = w := by
  by_cases h0 : zs = []
  · subst h0
    have : m = 0 := hn.symm
    subst this
    refine (Try.slices_Contains_string_empty A c t w).mono fun e w' h => ?_
    exact h
  · have hpos : 0 < zs.length := List.length_pos_iff.2 h0
    obtain ⟨b, o, hA, _, hc⟩ := h.ex (fun e => h0 (List.eq_nil_of_length_eq_zero (by have := congrArg List.length e; simpa [ss] using this)))
    subst hA
    refine (Try.slices_Contains_string b o m c zs t w (by omega) hm (fun j hj => hc j _ (by rw [ss_get (List.getElem?_eq_getElem hj)]; congr 2; rw [List.getD_eq_getElem?_getD, List.getElem?_eq_getElem hj]; rfl))).mono fun e w' h => ?_
    rw [List.take_of_length_le (by omega)] at h
    exact h
theorem below_undrew {X w1 : World} (h : Below X.drew.heap.size X.drew w1) : Below X.heap.size X w1 := ((Below.refl _ X).drew).trans h
/-- A boxed token, in a later world. -/
theorem box_four {w w1 : World} {x0 x1 x2 x3 : Value} {ty : TypeId} (h : Below (w.alloc (.cells #[x0, x1, x2, x3] ty)).heap.size (w.alloc (.cells #[x0, x1, x2, x3] ty)) w1) :
    w1.cell? ⟨w.heap.size, 0, none⟩ = some x0 ∧ w1.cell? ⟨w.heap.size, 1, none⟩ = some x1 ∧ w1.cell? ⟨w.heap.size, 2, none⟩ = some x2 ∧ w1.cell? ⟨w.heap.size, 3, none⟩ = some x3 := by
  have hb : w1.heap[w.heap.size]? = some (.cells #[x0, x1, x2, x3] ty (0, 0)) := (h.block w.heap.size (by simp)).trans (heap_alloc_new w _)
  refine ⟨?_, ?_, ?_, ?_⟩ <;> (unfold World.cell?; simp only [hb]; rfl)
theorem four_on {g : Nat} {w w' : World} {x0 x1 x2 x3 : Value} (h : Below w.heap.size w w') (hg : g < w.heap.size) (h0 : w.cell? ⟨g, 0, none⟩ = some x0) (h1 : w.cell? ⟨g, 1, none⟩ = some x1) (h2 : w.cell? ⟨g, 2, none⟩ = some x2) (h3 : w.cell? ⟨g, 3, none⟩ = some x3) :
    w'.cell? ⟨g, 0, none⟩ = some x0 ∧ w'.cell? ⟨g, 1, none⟩ = some x1 ∧ w'.cell? ⟨g, 2, none⟩ = some x2 ∧ w'.cell? ⟨g, 3, none⟩ = some x3 :=
  ⟨(h.cell (p := ⟨g, 0, none⟩) hg).trans h0, (h.cell (p := ⟨g, 1, none⟩) hg).trans h1, (h.cell (p := ⟨g, 2, none⟩) hg).trans h2, (h.cell (p := ⟨g, 3, none⟩) hg).trans h3⟩
set_option maxHeartbeats 4000000 in
theorem lsigns_long (kd n at' : Int) (t : ByteArray) (A : Option Addr) (m c : Nat) (w : World) (hc : (30 < (m : Int)) ∨ ((m : Int) ≤ 30 ∧ 100 < (t.size : Int))) :
    Calls Try.prog 11 #[.agg #[.int .i64 kd, .string t, .int .i64 n, .int .i64 at'], .slice A m c] w fun e w' => e = .returned (.bool true) ∧ Below w.heap.size w w' := by
  have C3 : Hid (∀ W : World, Calls Try.prog 30 #[] W fun e w' => e = .returned (.bool true) ∧ Below W.heap.size W w') := fun W => alive16_any W
  rcases hc with h | ⟨h, h'⟩
  all_goals
    go_enter Try.func11, Try.ntmps11
    go_wp2_with (go_at_call 30; refine (C3.out _).mono ?_; rintro e w3 ⟨rfl, hb⟩; have B3 := Lib.hid (((Below.refl w.heap.size w).alloc (Nat.le_refl _) _).trans (hb.mono (by simp))); clear hb)
    go_ret
    exact ⟨rfl, B3.out⟩
set_option maxHeartbeats 8000000 in
theorem lsigns_short (kd n at' : Int) (t : ByteArray) (A : Option Addr) (zs : List ByteArray) (m c : Nat) (w : World) (p : Nat → Prop) (hn : zs.length = m) (hm : (m : Int) ≤ 30) (ht : (t.size : Int) ≤ 100) (h : Rd w p A (ss zs)) :
    Calls Try.prog 11 #[.agg #[.int .i64 kd, .string t, .int .i64 n, .int .i64 at'], .slice A m c] w fun e w' => e = .returned (.bool true) ∧ Below w.heap.size w w' := by
  have C3 : Hid (∀ W : World, Calls Try.prog 30 #[] W fun e w' => e = .returned (.bool true) ∧ Below W.heap.size W w') := fun W => alive16_any W
  obtain ⟨V, hV⟩ : ∃ V, isOne kd t zs = V := ⟨_, rfl⟩
  have CI : Hid (∀ W : World, Below w.heap.size w W → Calls Try.prog 36 #[.agg #[.int .i64 kd, .string t, .int .i64 n, .int .i64 at'], .slice A m c] W fun e w' => e = .returned (.bool V) ∧ Below W.heap.size W w') := fun W hb => by
    have := is_any kd n at' t A zs m c W p hn (by omega) (h.after hb)
    rw [hV] at this
    exact this
  have CC0 : Hid (∀ W : World, Below w.heap.size w W → Calls Try.prog 37 #[.slice A m c, .string t] W fun e w' => e = .returned (.bool (Lib.containsS zs t)) ∧ w' = W) := fun W hb => contains_any t A zs m c W p hn (by omega) (h.after hb)
  clear h hn
  rcases Bool.eq_false_or_eq_true (kd == 4) with d1 | d1
  · have CC : Hid (∀ W : World, Below w.heap.size w W → Calls Try.prog 37 #[.slice A m c, .string t] W fun e w' => e = .returned (.bool V) ∧ w' = W) := fun W hb => by
      have := CC0.out W hb
      have e : Lib.containsS zs t = V := by rw [← hV]; unfold isOne; rw [d1]; rfl
      rw [e] at this
      exact this
    have d2 : (V == V) = true := beq_self_eq_true _
    clear CC0 hV
    go_enter Try.func11, Try.ntmps11
    go_wp2
    go_region_with (first
      | (go_at_call 30; refine (C3.out _).mono ?_; rintro e w1 ⟨rfl, hb0⟩; have hb := below_undrew hb0; clear hb0; obtain ⟨q0, q1, q2, q3⟩ := box_four (w := w) hb; have lq := lt_of_cell q0; have B1 := Lib.hid (((Below.refl w.heap.size w).alloc (Nat.le_refl _) _).trans (hb.mono (by simp))); clear hb)
      | (go_at_call 36; refine (CI.out _ B1.out).mono ?_; rintro e w2 ⟨rfl, hb⟩; obtain ⟨r0, r1, r2, r3⟩ := four_on hb lq q0 q1 q2 q3; have B2 := Lib.hid (B1.out.trans (hb.mono B1.out.size)); clear hb)
      | (go_at_call 37; refine (CC.out _ B2.out).mono ?_; rintro e w3 ⟨rfl, rfl⟩)
      | (go_at_call 37; refine (CC.out _ B1.out).mono ?_; rintro e w3 ⟨rfl, rfl⟩))
    all_goals
      go_wp2
      go_ret
      exact ⟨rfl, B2.out⟩
  · obtain rfl : V = false := by rw [← hV]; unfold isOne; rw [d1]; rfl
    clear CC0 hV
    go_enter Try.func11, Try.ntmps11
    go_wp2
    first
      | (go_region_with (first
          | (go_at_call 30; refine (C3.out _).mono ?_; rintro e w1 ⟨rfl, hb0⟩; have hb := below_undrew hb0; clear hb0; obtain ⟨q0, q1, q2, q3⟩ := box_four (w := w) hb; have lq := lt_of_cell q0; have B1 := Lib.hid (((Below.refl w.heap.size w).alloc (Nat.le_refl _) _).trans (hb.mono (by simp))); clear hb)
          | (go_at_call 36; refine (CI.out _ B1.out).mono ?_; rintro e w2 ⟨rfl, hb⟩; obtain ⟨r0, r1, r2, r3⟩ := four_on hb lq q0 q1 q2 q3; have B2 := Lib.hid (B1.out.trans (hb.mono B1.out.size)); clear hb)))
      | fail
    all_goals
      go_wp2
      go_ret
      exact ⟨rfl, B2.out⟩
theorem lsigns_law (kd n at' : Int) (t : ByteArray) (A : Option Addr) (zs : List ByteArray) (m c : Nat) (w : World) (p : Nat → Prop) (hn : zs.length = m) (h : Rd w p A (ss zs)) :
    Calls Try.prog 11 #[.agg #[.int .i64 kd, .string t, .int .i64 n, .int .i64 at'], .slice A m c] w fun e w' => e = .returned (.bool true) ∧ Below w.heap.size w w' := by
  by_cases h1 : 30 < (m : Int)
  · exact lsigns_long kd n at' t A m c w (.inl h1)
  · by_cases h2 : 100 < (t.size : Int)
    · exact lsigns_long kd n at' t A m c w (.inr ⟨by omega, h2⟩)
    · exact lsigns_short kd n at' t A zs m c w p hn (by omega) (by omega) h
end Go.Proofs.Ytilfbnfejnjaeaa
