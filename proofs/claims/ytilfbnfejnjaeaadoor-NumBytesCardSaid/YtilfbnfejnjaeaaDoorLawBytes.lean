/- The walk of the statement NumBytes. -/
import Derived.Test.YtilfbnfejnjaeaaDoorLawHexes
namespace Go.Proofs.YtilfbnfejnjaeaaDoor
open Go.RowKit

theorem upc_upc (c : UInt8) : upc (upc c) = upc c := by
  have h : ∀ n : Fin 256, upc (upc (UInt8.ofNat n.val)) = upc (UInt8.ofNat n.val) := by decide +kernel
  have := h ⟨c.toNat, c.toNat_lt⟩
  simpa using this
theorem upc_map (l : List UInt8) : (l.map upc).map upc = l.map upc := by
  rw [List.map_map]
  exact List.map_congr_left fun c _ => upc_upc c
/-- What Bytes returns, in one form. -/
theorem BytesR.one {w w' : World} {e : Ending} {o : Option (List UInt8)} (h : BytesR w o e w') : ∃ A c, e = .returned (.tuple #[.slice A (o.getD []).length c, .bool o.isSome]) ∧ Rd w' (fun _ => True) A (bs (o.getD [])) ∧ Below w.heap.size w w' := by
  obtain ⟨hb, h⟩ := h
  cases o with
  | none => exact ⟨none, 0, h, Rd.nil _ _ _, hb⟩
  | some d =>
    obtain ⟨v, he, ho⟩ := h
    obtain ⟨A, c, rfl, _⟩ := own_form ho
    exact ⟨A, c, he, Rd.of_own ho (fun _ _ _ => trivial), hb⟩
set_option maxHeartbeats 1000000 in
theorem bytes_long (s : ByteArray) (w : World) (hT : T16 w) (h : 1000 < (s.size : Int)) :
    Calls Tryd.prog 8 #[.string s] w fun e w' => e = .returned (.bool true) ∧ Below w.heap.size w w' := by
  have C := Lib.hid (alive1_any w hT)
  clear hT
  go_enter Tryd.func8, Tryd.ntmps8
  go_wp2_with (go_at_call 11; refine C.out.mono ?_; rintro e w1 ⟨rfl, hb⟩; have HB := Lib.hid hb; clear hb)
  go_ret
  exact ⟨rfl, HB.out⟩
set_option maxHeartbeats 2000000 in
theorem bytes_short (s : ByteArray) (w : World) (hT : T16 w) (h : (s.size : Int) ≤ 1000) :
    Calls Tryd.prog 8 #[.string s] w fun e w' => e = .returned (.bool true) ∧ Below w.heap.size w w' := by
  obtain ⟨U, hU⟩ : ∃ U : ByteArray, (⟨(s.data.toList.map upc).toArray⟩ : ByteArray) = U := ⟨_, rfl⟩
  have hUl : U.data.toList = s.data.toList.map upc := by rw [← hU]
  have hUs : U.size = s.size := by rw [← str_len, hUl, List.length_map, str_len]
  obtain ⟨o, ho⟩ : ∃ o, pairs (s.data.toList.map upc) = o := ⟨_, rfl⟩
  have hol : (o.getD []).length ≤ 1000 := by
    cases o with
    | none => simp
    | some d =>
      have := pairs_length _ _ ho
      rw [List.length_map, str_len] at this
      show d.length ≤ 1000
      omega
  obtain ⟨D, hD⟩ : ∃ D, o.getD [] = D := ⟨_, rfl⟩
  obtain ⟨ok, hok⟩ : ∃ ok, o.isSome = ok := ⟨_, rfl⟩
  have C1 : Hid (∀ W : World, Calls Tryd.prog 25 #[.string s] W fun e w' => ∃ A c, e = .returned (.tuple #[.slice A D.length c, .bool ok]) ∧ Rd w' (fun _ => True) A (bs D) ∧ Below W.heap.size W w') := fun W => by
    rw [← hD, ← hok, ← ho]
    exact (bytes_any s W (by omega)).mono fun e w' h => h.one
  have C2 : Hid (∀ W : World, Calls Tryd.prog 28 #[.string s] W fun e w' => ∃ A c, e = .returned (.tuple #[.slice A D.length c, .bool ok]) ∧ Rd w' (fun _ => True) A (bs D) ∧ Below W.heap.size W w') := fun W => by
    rw [← hD, ← hok, ← ho]
    exact (rbytes_any s W (by omega)).mono fun e w' h => h.one
  have C3 : Hid (∀ W : World, Calls Tryd.prog 16 #[.string s] W fun e w' => e = .returned (.string U) ∧ Below W.heap.size W w') := fun W => by
    rw [← hU]
    exact upper_any s W (by unfold maxLen; omega)
  have C4 : Hid (∀ W : World, Calls Tryd.prog 25 #[.string U] W fun e w' => ∃ A c, e = .returned (.tuple #[.slice A D.length c, .bool ok]) ∧ Rd w' (fun _ => True) A (bs D) ∧ Below W.heap.size W w') := fun W => by
    rw [← hD, ← hok, ← ho, ← upc_map, ← hUl]
    exact (bytes_any U W (by omega)).mono fun e w' h => h.one
  have C5 : Hid (∀ W : World, Below w.heap.size w W → Calls Tryd.prog 11 #[] W fun e w' => e = .returned (.bool true) ∧ Below W.heap.size W w') := fun W hb => alive1_any W (hT.after hb (Nat.le_refl _))
  have C6 : Hid (∀ (W : World) A A' c c', Rd W (fun _ => True) A (bs D) → Rd W (fun _ => True) A' (bs D) → Calls Tryd.prog 21 #[.slice A D.length c, .slice A' D.length c'] W fun e w' => e = .returned (.bool true) ∧ Below W.heap.size W w') := fun W A A' c c' h h' => equal_yes A A' D _ _ c c' W _ _ rfl rfl (by rw [← hD]; omega) h h'
  obtain ⟨n, hn⟩ : ∃ n, D.length = n := ⟨_, rfl⟩
  rw [hn] at C1 C2 C4 C6
  have dk : (ok == ok) = true := beq_self_eq_true _
  clear hT hU hUl hUs ho hol hD hok hn
  go_enter Tryd.func8, Tryd.ntmps8
  go_wp2_with (first
    | (go_at_call 25; (with_reducible refine (C1.out _).mono ?_); rintro e w1 ⟨A1, c1, rfl, hr, hb⟩; have R1 := Lib.hid hr; have B1 := Lib.hid hb; clear hr hb)
    | (go_at_call 28; refine (C2.out _).mono ?_; rintro e w2 ⟨A2, c2, rfl, hr, hb⟩; have R12 := Lib.hid (R1.out.after hb); have R2 := Lib.hid hr; have B2 := Lib.hid (B1.out.trans (hb.mono B1.out.size)); clear hr hb)
    | (go_at_call 16; refine (C3.out _).mono ?_; rintro e w3 ⟨rfl, hb⟩; have R13 := Lib.hid (R12.out.after hb); have R23 := Lib.hid (R2.out.after hb); have B3 := Lib.hid (B2.out.trans (hb.mono B2.out.size)); clear hb)
    | (go_at_call 25; refine (C4.out _).mono ?_; rintro e w4 ⟨A4, c4, rfl, hr, hb⟩; have R14 := Lib.hid (R13.out.after hb); have R24 := Lib.hid (R23.out.after hb); have R4 := Lib.hid hr; have B4 := Lib.hid (B3.out.trans (hb.mono B3.out.size)); clear hr hb)
    | (go_at_call 11; refine (C5.out _ B4.out).mono ?_; rintro e w5 ⟨rfl, hb⟩; have R15 := Lib.hid (R14.out.after hb); have R25 := Lib.hid (R24.out.after hb); have R45 := Lib.hid (R4.out.after hb); have B5 := Lib.hid (B4.out.trans (hb.mono B4.out.size)); clear hb)
    | (go_at_call 21; (with_reducible refine (C6.out _ _ _ _ _ R15.out R25.out).mono ?_); rintro e w6 ⟨rfl, hb⟩; have R26 := Lib.hid (R25.out.after hb); have R46 := Lib.hid (R45.out.after hb); have B6 := Lib.hid (B5.out.trans (hb.mono B5.out.size)); clear hb)
    | (go_at_call 21; refine (C6.out _ _ _ _ _ R46.out R26.out).mono ?_; rintro e w7 ⟨rfl, hb⟩; have B7 := Lib.hid (B6.out.trans (hb.mono B6.out.size)); clear hb))
  go_ret
  exact ⟨rfl, B7.out⟩
theorem bytes_law (s : ByteArray) (w : World) (hT : T16 w) : Calls Tryd.prog 8 #[.string s] w fun e w' => e = .returned (.bool true) ∧ Below w.heap.size w w' := by
  by_cases h : 1000 < (s.size : Int)
  · exact bytes_long s w hT h
  · exact bytes_short s w hT (by omega)
end Go.Proofs.YtilfbnfejnjaeaaDoor
