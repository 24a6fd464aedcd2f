/- The walks of the ways to write a number: prefix, suffix, forms. -/
import Derived.Test.YtilfbnfejnjaeaaDigits
import Derived.Deep.RegionHeld3
import Derived.Deep.RegionLaw
namespace Go.Proofs.Ytilfbnfejnjaeaa
open Go.RowKit

theorem prefix_any (m : ByteArray) (w : World) : Calls Try.prog 109 #[.string m] w fun e w' => e = .returned (.func (.func 112) #[] #[.pointer (some ⟨w.heap.size, 0, none⟩)]) ∧ w.alloc (.cells #[.string m] 9) = w' := by
  go_enter Try.func109, Try.ntmps109
  go_wp2
  go_ret
  exact ⟨rfl, rfl⟩
theorem suffix_any (m : ByteArray) (w : World) : Calls Try.prog 111 #[.string m] w fun e w' => e = .returned (.func (.func 113) #[] #[.pointer (some ⟨w.heap.size, 0, none⟩)]) ∧ w.alloc (.cells #[.string m] 9) = w' := by
  go_enter Try.func111, Try.ntmps111
  go_wp2
  go_ret
  exact ⟨rfl, rfl⟩
theorem cut0_any (s : ByteArray) (w : World) : Calls Try.prog 108 #[.string s] w fun e w' => e = .returned (.tuple #[.string s, .bool true]) ∧ w = w' := by
  go_enter Try.func108, Try.ntmps108
  go_wp2
  go_ret2
  exact ⟨rfl, rfl⟩
set_option maxHeartbeats 1000000 in
theorem cutp_any (s m : ByteArray) (g : Nat) (w : World) (hs : (s.size : Int) ≤ 140737488355328) (hc : w.cell? ⟨g, 0, none⟩ = some (.string m)) :
    Calls Try.prog 112 #[.string s, .pointer (some ⟨g, 0, none⟩)] w fun e w' => e = .returned (.tuple #[.string ⟨(Lib.trimPrefix (s.data.toList.map upc) m.data.toList).toArray⟩, .bool (Lib.hasPrefix (s.data.toList.map upc) m.data.toList)]) ∧ Below w.heap.size w w' := by
  have hlt := lt_of_cell hc
  have CU : Hid (∀ W : World, Calls Try.prog 70 #[.string s] W fun e w' => e = .returned (.string ⟨(s.data.toList.map upc).toArray⟩) ∧ Below W.heap.size W w') := fun W => upper_any s W (by unfold maxLen; omega)
  obtain ⟨U, hU⟩ : ∃ U : ByteArray, (⟨(s.data.toList.map upc).toArray⟩ : ByteArray) = U := ⟨_, rfl⟩
  have hl : s.data.toList.map upc = U.data.toList := by rw [← hU]
  rw [hU] at CU
  rw [hl]
  have CP : Hid (∀ W : World, Calls Try.prog 42 #[.string U, .string m] W fun e w' => e = .returned (.tuple #[.string ⟨(Lib.trimPrefix U.data.toList m.data.toList).toArray⟩, .bool (Lib.hasPrefix U.data.toList m.data.toList)]) ∧ w' = W) := fun W => Try.strings_CutPrefix U m W
  obtain ⟨D, hD⟩ : ∃ D : ByteArray, (⟨(Lib.trimPrefix U.data.toList m.data.toList).toArray⟩ : ByteArray) = D := ⟨_, rfl⟩
  obtain ⟨ok, hok⟩ : ∃ ok, Lib.hasPrefix U.data.toList m.data.toList = ok := ⟨_, rfl⟩
  rw [hD, hok] at CP
  rw [hD, hok]
  clear hU hl hD hok hs
  go_enter Try.func112, Try.ntmps112
  go_wp2
  go_region_held3 (fun w' => w'.cell? ⟨g, 0, none⟩ = some (.string m)) (go_keep)
    (first
      | (go_at_call 70; refine (CU.out _).mono ?_; rintro e w1 ⟨rfl, hb⟩; have B1 := Lib.hid hb; have q0 : w1.cell? ⟨g, 0, none⟩ = some (.string m) := (hb.cell (p := ⟨g, 0, none⟩) hlt).trans hc; clear hb)
      | (go_at_call 42; refine (CP.out _).mono ?_; rintro e w2 ⟨rfl, rfl⟩))
  all_goals
    go_wp2
    go_ret2
    exact ⟨rfl, (Below.refl w.heap.size w).drew.trans B1.out⟩
set_option maxHeartbeats 1000000 in
theorem cuts_any (s m : ByteArray) (g : Nat) (w : World) (hs : (s.size : Int) ≤ 140737488355328) (hc : w.cell? ⟨g, 0, none⟩ = some (.string m)) :
    Calls Try.prog 113 #[.string s, .pointer (some ⟨g, 0, none⟩)] w fun e w' => e = .returned (.tuple #[.string ⟨(Lib.trimSuffix (s.data.toList.map upc) m.data.toList).toArray⟩, .bool (Lib.hasSuffix (s.data.toList.map upc) m.data.toList)]) ∧ Below w.heap.size w w' := by
  have hlt := lt_of_cell hc
  have CU : Hid (∀ W : World, Calls Try.prog 70 #[.string s] W fun e w' => e = .returned (.string ⟨(s.data.toList.map upc).toArray⟩) ∧ Below W.heap.size W w') := fun W => upper_any s W (by unfold maxLen; omega)
  obtain ⟨U, hU⟩ : ∃ U : ByteArray, (⟨(s.data.toList.map upc).toArray⟩ : ByteArray) = U := ⟨_, rfl⟩
  have hl : s.data.toList.map upc = U.data.toList := by rw [← hU]
  have hUs : U.size = s.size := by rw [← str_len, ← hl, List.length_map, str_len]
  rw [hU] at CU
  rw [hl]
  have CP : Hid (∀ W : World, Calls Try.prog 114 #[.string U, .string m] W fun e w' => e = .returned (.tuple #[.string ⟨(Lib.trimSuffix U.data.toList m.data.toList).toArray⟩, .bool (Lib.hasSuffix U.data.toList m.data.toList)]) ∧ w' = W) := fun W => Try.strings_CutSuffix U m W (by omega)
  obtain ⟨D, hD⟩ : ∃ D : ByteArray, (⟨(Lib.trimSuffix U.data.toList m.data.toList).toArray⟩ : ByteArray) = D := ⟨_, rfl⟩
  obtain ⟨ok, hok⟩ : ∃ ok, Lib.hasSuffix U.data.toList m.data.toList = ok := ⟨_, rfl⟩
  rw [hD, hok] at CP
  rw [hD, hok]
  clear hU hl hD hok hs hUs
  go_enter Try.func113, Try.ntmps113
  go_wp2
  go_region_held3 (fun w' => w'.cell? ⟨g, 0, none⟩ = some (.string m)) (go_keep)
    (first
      | (go_at_call 70; refine (CU.out _).mono ?_; rintro e w1 ⟨rfl, hb⟩; have B1 := Lib.hid hb; have q0 : w1.cell? ⟨g, 0, none⟩ = some (.string m) := (hb.cell (p := ⟨g, 0, none⟩) hlt).trans hc; clear hb)
      | (go_at_call 114; refine (CP.out _).mono ?_; rintro e w2 ⟨rfl, rfl⟩))
  all_goals
    go_wp2
    go_ret2
    exact ⟨rfl, (Below.refl w.heap.size w).drew.trans B1.out⟩
/-- The digits of the form with H begin with a decimal digit. -/
def hok : List UInt8 → Bool
  | [] => false
  | c :: _ => decide (c.toNat ≤ 57)
theorem suffH (s : ByteArray) (w : World) (hs : (s.size : Int) ≤ 140737488355328) :
    Calls Try.prog 113 #[.string s, .pointer (some ⟨w.heap.size, 0, none⟩)] (w.alloc (.cells #[.string ⟨#[72]⟩] 9)) fun e w' => e = .returned (.tuple #[.string ⟨(Lib.trimSuffix (s.data.toList.map upc) [72]).toArray⟩, .bool (Lib.hasSuffix (s.data.toList.map upc) [72])]) ∧ Below w.heap.size w w' :=
  (cuts_any s ⟨#[72]⟩ w.heap.size (w.alloc (.cells #[.string ⟨#[72]⟩] 9)) hs (by unfold World.cell?; simp only [heap_alloc_new]; rfl)).mono fun e w' ⟨h1, h2⟩ => ⟨h1, ((Below.refl _ _).alloc (Nat.le_refl _) _).trans (h2.mono (by simp))⟩
set_option maxHeartbeats 1000000 in
theorem cuth_any (s : ByteArray) (w : World) (hs : (s.size : Int) ≤ 140737488355328) :
    Calls Try.prog 110 #[.string s] w fun e w' => e = .returned (.tuple #[.string ⟨(Lib.trimSuffix (s.data.toList.map upc) [72]).toArray⟩, .bool (Lib.hasSuffix (s.data.toList.map upc) [72] && hok (Lib.trimSuffix (s.data.toList.map upc) [72]))]) ∧ Below w.heap.size w w' := by
  have CS := Lib.hid (suffH s w hs)
  have CM : Hid (∀ W : World, Calls Try.prog 111 #[.string ⟨#[72]⟩] W fun e w' => e = .returned (.func (.func 113) #[] #[.pointer (some ⟨W.heap.size, 0, none⟩)]) ∧ W.alloc (.cells #[.string ⟨#[72]⟩] 9) = w') := fun W => suffix_any _ W
  obtain ⟨D, hD⟩ : ∃ D : ByteArray, (⟨(Lib.trimSuffix (s.data.toList.map upc) [72]).toArray⟩ : ByteArray) = D := ⟨_, rfl⟩
  have hl : Lib.trimSuffix (s.data.toList.map upc) [72] = D.data.toList := by rw [← hD]
  obtain ⟨ok, hok'⟩ : ∃ ok, Lib.hasSuffix (s.data.toList.map upc) [72] = ok := ⟨_, rfl⟩
  rw [hD, hok'] at CS
  rw [hD, hok', hl]
  clear hD hl hok' hs
  cases ok with
  | false =>
    rw [Bool.false_and]
    go_enter Try.func110, Try.ntmps110
    go_wp2_with (first
      | (go_at_call 111; refine (CM.out _).mono ?_; rintro e w1 ⟨rfl, rfl⟩)
      | (go_at_call 113; refine CS.out.mono ?_; rintro e w2 ⟨rfl, hb⟩; have B2 := Lib.hid hb; clear hb))
    go_region
    go_wp2
    go_ret2
    exact ⟨rfl, B2.out.drew⟩
  | true =>
    rw [Bool.true_and]
    have he := str_empty D
    cases hc : D.data.toList with
    | nil =>
      rw [hc, decide_eq_true rfl] at he
      have HK : Hid (hok ([] : List UInt8) = false) := rfl
      rw [HK.out]
      clear hc
      go_enter Try.func110, Try.ntmps110
      go_wp2_with (first
        | (go_at_call 111; refine (CM.out _).mono ?_; rintro e w1 ⟨rfl, rfl⟩)
        | (go_at_call 113; refine CS.out.mono ?_; rintro e w2 ⟨rfl, hb⟩; have B2 := Lib.hid hb; clear hb))
      go_region
      go_wp2
      go_ret2
      exact ⟨rfl, B2.out.drew⟩
    | cons c r =>
      rw [hc, decide_eq_false (by simp)] at he
      have h0 : 0 < D.size := by rw [← str_len, hc]; simp
      have hz : D[0] = c := by
        obtain ⟨c', h1, h2⟩ := str_at D h0
        rw [hc] at h2
        rw [h1, ← Option.some.inj h2]
      obtain ⟨y, hy⟩ : ∃ y : Int, (c.toNat : Int) = y := ⟨_, rfl⟩
      obtain ⟨x, hx⟩ : ∃ x : Bool, hok (c :: r) = x := ⟨_, rfl⟩
      have d1 : decide (y ≤ 57) = x := by
        rw [← hx, ← hy]
        unfold hok
        simp only [decide_eq_decide]
        omega
      rw [hx]
      clear hc hx
      go_enter Try.func110, Try.ntmps110
      go_wp2_with (first
        | (go_at_call 111; refine (CM.out _).mono ?_; rintro e w1 ⟨rfl, rfl⟩)
        | (go_at_call 113; refine CS.out.mono ?_; rintro e w2 ⟨rfl, hb⟩; have B2 := Lib.hid hb; clear hb))
      go_region
      go_wp2
      go_ret2
      exact ⟨rfl, B2.out.drew⟩
end Go.Proofs.Ytilfbnfejnjaeaa
