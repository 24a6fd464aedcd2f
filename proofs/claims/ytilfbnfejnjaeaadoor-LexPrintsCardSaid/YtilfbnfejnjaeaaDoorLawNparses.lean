/- The walks of the statements NumParses and NumUppers. -/
import Derived.Test.YtilfbnfejnjaeaaDoorAlive1
import Derived.Test.YtilfbnfejnjaeaaDoorRpnum
namespace Go.Proofs.YtilfbnfejnjaeaaDoor
open Go.RowKit

theorem dgV_form (o : Option Nat) : ∃ (v : Int) (ok : Bool), dgV o = .tuple #[.int .i64 v, .bool ok] := by
  cases o with
  | none => exact ⟨0, false, rfl⟩
  | some n => exact ⟨(n : Int), true, rfl⟩
set_option maxHeartbeats 1000000 in
theorem nparses_long (s : ByteArray) (w : World) (hT : T16 w) (h : 200 < (s.size : Int)) :
    Calls Tryd.prog 3 #[.string s] w fun e w' => e = .returned (.bool true) ∧ Below w.heap.size w w' := by
  have C := Lib.hid (alive1_any w hT)
  clear hT
  go_enter Tryd.func3, Tryd.ntmps3
  go_wp2_with (go_at_call 11; refine C.out.mono ?_; rintro e w1 ⟨rfl, hb⟩; have HB := Lib.hid hb; clear hb)
  go_ret
  exact ⟨rfl, HB.out⟩
set_option maxHeartbeats 1000000 in
theorem nparses_short (s : ByteArray) (w : World) (hT : T16 w) (h : (s.size : Int) ≤ 200) :
    Calls Tryd.prog 3 #[.string s] w fun e w' => e = .returned (.bool true) ∧ Below w.heap.size w w' := by
  obtain ⟨v, ok, hv⟩ := dgV_form (pval s.data.toList)
  have C1 : Hid (∀ W : World, Calls Tryd.prog 12 #[.string s] W fun e w' => e = .returned (.tuple #[.int .i64 v, .bool ok]) ∧ Below W.heap.size W w') := fun W => by
    rw [← hv]
    exact parse_num s W (by omega)
  have C2 : Hid (∀ W : World, Calls Tryd.prog 13 #[.string s] W fun e w' => e = .returned (.tuple #[.int .i64 v, .bool ok]) ∧ W = w') := fun W => by
    rw [← hv]
    exact rparse_num s W (by omega)
  have C3 : Hid (∀ W : World, Below w.heap.size w W → Calls Tryd.prog 11 #[] W fun e w' => e = .returned (.bool true) ∧ Below W.heap.size W w') := fun W hb => alive1_any W (hT.after hb (Nat.le_refl _))
  have dv : (v == v) = true := beq_self_eq_true _
  have dk : (ok == ok) = true := beq_self_eq_true _
  clear hT hv
  go_enter Tryd.func3, Tryd.ntmps3
  go_wp2_with (first
    | (go_at_call 12; refine (C1.out _).mono ?_; rintro e w1 ⟨rfl, hb⟩; have B1 := Lib.hid hb; clear hb)
    | (go_at_call 13; refine (C2.out _).mono ?_; rintro e w2 ⟨rfl, rfl⟩)
    | (go_at_call 11; refine (C3.out _ B1.out).mono ?_; rintro e w3 ⟨rfl, hb⟩; have B3 := Lib.hid (B1.out.trans (hb.mono B1.out.size)); clear hb))
  go_ret
  exact ⟨rfl, B3.out⟩
theorem nparses_law (s : ByteArray) (w : World) (hT : T16 w) : Calls Tryd.prog 3 #[.string s] w fun e w' => e = .returned (.bool true) ∧ Below w.heap.size w w' := by
  by_cases h : 200 < (s.size : Int)
  · exact nparses_long s w hT h
  · exact nparses_short s w hT (by omega)
theorem upc_once (c : UInt8) : upc (upc c) = upc c := by
  have h : ∀ n : Fin 256, upc (upc (UInt8.ofNat n.val)) = upc (UInt8.ofNat n.val) := by decide +kernel
  have := h ⟨c.toNat, c.toNat_lt⟩
  simpa using this
theorem upc_twice (l : List UInt8) : (l.map upc).map upc = l.map upc := by
  rw [List.map_map]
  exact List.map_congr_left fun c _ => upc_once c
theorem fval_up (l : List UInt8) (k : Nat) (hk : k < 6) : fval (l.map upc) k = fval l k := by
  have ck : k = 0 ∨ k = 1 ∨ k = 2 ∨ k = 3 ∨ k = 4 ∨ k = 5 := by omega
  rcases ck with rfl | rfl | rfl | rfl | rfl | rfl
  · rw [fval0, upc_twice, ← fval0]
  · rw [fval_pre1, upc_twice, ← fval_pre1]
  · rw [fval_pre2, upc_twice, ← fval_pre2]
  · rw [fval_suf3, upc_twice, ← fval_suf3]
  · rw [fval_suf4, upc_twice, ← fval_suf4]
  · rw [fval_pre5, upc_twice, ← fval_pre5]
theorem pval_up (l : List UInt8) : pval (l.map upc) = pval l := by
  rcases pval_cases l with ⟨h, h2⟩ | ⟨k, n, hk, h1, h2, _⟩
  · rw [h]
    exact pval_none fun j hj => by rw [fval_up l j hj]; exact h2 j hj
  · rw [h2]
    exact pval_of hk (by rw [fval_up l k hk]; exact h1)
set_option maxHeartbeats 1000000 in
theorem nuppers_long (s : ByteArray) (w : World) (hT : T16 w) (h : 1000 < (s.size : Int)) :
    Calls Tryd.prog 5 #[.string s] w fun e w' => e = .returned (.bool true) ∧ Below w.heap.size w w' := by
  have C := Lib.hid (alive1_any w hT)
  clear hT
  go_enter Tryd.func5, Tryd.ntmps5
  go_wp2_with (go_at_call 11; refine C.out.mono ?_; rintro e w1 ⟨rfl, hb⟩; have HB := Lib.hid hb; clear hb)
  go_ret
  exact ⟨rfl, HB.out⟩
set_option maxHeartbeats 1000000 in
theorem nuppers_short (s : ByteArray) (w : World) (hT : T16 w) (h : (s.size : Int) ≤ 1000) :
    Calls Tryd.prog 5 #[.string s] w fun e w' => e = .returned (.bool true) ∧ Below w.heap.size w w' := by
  obtain ⟨v, ok, hv⟩ := dgV_form (pval s.data.toList)
  obtain ⟨U, hU⟩ : ∃ U : ByteArray, (⟨(s.data.toList.map upc).toArray⟩ : ByteArray) = U := ⟨_, rfl⟩
  have hUl : U.data.toList = s.data.toList.map upc := by rw [← hU]
  have hUs : U.size = s.size := by rw [← str_len, hUl, List.length_map, str_len]
  have C0 : Hid (∀ W : World, Calls Tryd.prog 16 #[.string s] W fun e w' => e = .returned (.string U) ∧ Below W.heap.size W w') := fun W => by
    rw [← hU]
    exact upper_any s W (by unfold maxLen; omega)
  have C1 : Hid (∀ W : World, Calls Tryd.prog 12 #[.string U] W fun e w' => e = .returned (.tuple #[.int .i64 v, .bool ok]) ∧ Below W.heap.size W w') := fun W => by
    rw [← hv, ← pval_up, ← hUl]
    exact parse_num U W (by omega)
  have C2 : Hid (∀ W : World, Calls Tryd.prog 13 #[.string s] W fun e w' => e = .returned (.tuple #[.int .i64 v, .bool ok]) ∧ W = w') := fun W => by
    rw [← hv]
    exact rparse_num s W (by omega)
  have C3 : Hid (∀ W : World, Below w.heap.size w W → Calls Tryd.prog 11 #[] W fun e w' => e = .returned (.bool true) ∧ Below W.heap.size W w') := fun W hb => alive1_any W (hT.after hb (Nat.le_refl _))
  have C4 : Hid (∀ W : World, Calls Tryd.prog 17 #[.string s] W fun e w' => e = .returned (.string U) ∧ Below W.heap.size W w') := fun W => by
    rw [← hU]
    exact rupper_any s W (by omega)
  have dv : (v == v) = true := beq_self_eq_true _
  have dk : (ok == ok) = true := beq_self_eq_true _
  have du : (U.toList == U.toList) = true := beq_self_eq_true _
  clear hT hv hU hUl hUs
  go_enter Tryd.func5, Tryd.ntmps5
  go_wp2_with (first
    | (go_at_call 16; refine (C0.out _).mono ?_; rintro e w1 ⟨rfl, hb⟩; have B0 := Lib.hid hb; clear hb)
    | (go_at_call 12; refine (C1.out _).mono ?_; rintro e w1 ⟨rfl, hb⟩; have B1 := Lib.hid (B0.out.trans (hb.mono B0.out.size)); clear hb)
    | (go_at_call 13; refine (C2.out _).mono ?_; rintro e w2 ⟨rfl, rfl⟩)
    | (go_at_call 11; refine (C3.out _ B1.out).mono ?_; rintro e w3 ⟨rfl, hb⟩; have B3 := Lib.hid (B1.out.trans (hb.mono B1.out.size)); clear hb)
    | (go_at_call 17; refine (C4.out _).mono ?_; rintro e w4 ⟨rfl, hb⟩; have B4 := Lib.hid (B3.out.trans (hb.mono B3.out.size)); clear hb))
  go_ret
  exact ⟨rfl, B4.out⟩
theorem nuppers_law (s : ByteArray) (w : World) (hT : T16 w) : Calls Tryd.prog 5 #[.string s] w fun e w' => e = .returned (.bool true) ∧ Below w.heap.size w w' := by
  by_cases h : 1000 < (s.size : Int)
  · exact nuppers_long s w hT h
  · exact nuppers_short s w hT (by omega)
end Go.Proofs.YtilfbnfejnjaeaaDoor
