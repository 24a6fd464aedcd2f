/- The walk of the statement LexQuotes. -/
import Derived.Test.YtilfbnfejnjaeaaDoorLquote
namespace Go.Proofs.YtilfbnfejnjaeaaDoor
open Go.RowKit

theorem qt_toks {m : UInt8} (hm : m = 34 ∨ m = 39) (l : List UInt8) (hs : (qt m l).length ≤ 1024) : tokens (qt m l) = .ok [⟨3, l, 0, 0⟩, ⟨0, [], 0, (qt m l).length⟩] := by
  have hb : blankLen (qt m l) = 0 := by rcases hm with rfl | rfl <;> rfl
  have he : isEnd (qt m l) = false := by rcases hm with rfl | rfl <;> rfl
  have hw : wordLen (qt m l) = 0 := by rcases hm with rfl | rfl <;> rfl
  have hn : isNum (qt m l) = false := by rcases hm with rfl | rfl <;> rfl
  have hq : quo m (dbl m l ++ [m]) = some (l, (dbl m l).length + 1) := quo_dbl (r := []) (by simp) l
  have ht : tok1 (qt m l) 0 = .ok (⟨3, l, 0, 0⟩, (dbl m l).length + 1 + 1) := by
    have : tok1 (m :: (dbl m l ++ [m])) 0 = .ok (⟨3, l, 0, 0⟩, (dbl m l).length + 1 + 1) := by
      unfold tok1
      rw [show wordLen (m :: (dbl m l ++ [m])) = 0 from hw, show isNum (m :: (dbl m l ++ [m])) = false from hn]
      simp only [Nat.lt_irrefl, Bool.false_eq_true, if_false]
      rw [if_pos hm, hq]
    exact this
  have hlen : (qt m l).length = (dbl m l).length + 1 + 1 := by unfold qt; simp
  unfold tokens
  rw [if_neg (by omega), toks_step, hb, List.drop_zero, he, ht]
  simp only [Bool.false_eq_true, if_false]
  rw [List.drop_eq_nil_of_le (by omega), hlen, toks_step]
  show (Except.ok _ : Except Nat (List Tk)) = _
  simp [blankLen]
theorem lquotes_long (s : ByteArray) (b : Bool) (w : World) (h : 300 < (s.size : Int)) :
    Calls Tryd.prog 9 #[.string s, .bool b] w fun e w' => e = .returned (.bool true) ∧ Below w.heap.size w w' := by
  have C3 := Lib.hid (alive16_any w)
  go_enter Tryd.func9, Tryd.ntmps9
  go_wp2_with (go_at_call 29; refine C3.out.mono ?_; rintro e w3 ⟨rfl, hb⟩; have B3 := Lib.hid hb; clear hb)
  go_ret
  exact ⟨rfl, B3.out⟩
/-- What Tokens gives at the form of a string. -/
theorem qt_read (m : UInt8) (hm : m = 34 ∨ m = 39) (s Q : ByteArray) (hQ : Q = ⟨(qt m s.data.toList).toArray⟩) (hs : (s.size : Int) ≤ 300) (W : World) :
    Calls Tryd.prog 33 #[.string Q] W fun e w' => ∃ b o cap, e = .returned (.tuple #[.slice (some ⟨b, o, none⟩) 2 cap, .int .i64 0]) ∧ Below W.heap.size W w' ∧
      w'.cell? ⟨b, o, none⟩ = some (.int .i64 3) ∧ w'.cell? ⟨b, o + 1, none⟩ = some (.string s) ∧ w'.cell? ⟨b, o + 3, none⟩ = some (.int .i64 0) ∧ w'.cell? ⟨b, o + 7, none⟩ = some (.int .i64 (Q.size : Int)) := by
  have hl := qt_len m s.data.toList
  rw [str_len] at hl
  have hQl : Q.data.toList = qt m s.data.toList := by rw [hQ]
  have hQs : Q.size = (qt m s.data.toList).length := by rw [← str_len, hQl]
  refine (tokens_any Q W (by omega)).mono fun e w' ⟨hb, h⟩ => ?_
  rw [hQl, qt_toks hm _ (by omega)] at h
  rcases h with ⟨c, h, _⟩ | ⟨ts, A, cap, h, he, hr⟩
  · cases h
  · injection h with h
    subst h
    obtain ⟨b, o, hA, c0, c1, _, c3⟩ := hr.tok (k := 0) rfl
    obtain ⟨b', o', hA', _, _, _, d3⟩ := hr.tok (k := 1) rfl
    subst hA
    injection hA' with hA'
    injection hA' with e1 e2
    subst e1 e2
    refine ⟨b, o, cap, he, hb, c0, ?_, c3, ?_⟩
    · rw [show (⟨s.data.toList.toArray⟩ : ByteArray) = s from rfl] at c1
      exact c1
    · rw [hQs]
      exact d3
set_option maxHeartbeats 2000000 in
theorem lquotes_short (s : ByteArray) (sg : Bool) (w : World) (hs : (s.size : Int) ≤ 300) (hM : HasM w) :
    Calls Tryd.prog 9 #[.string s, .bool sg] w fun e w' => e = .returned (.bool true) ∧ Below w.heap.size w w' := by
  obtain ⟨Q, hQ⟩ : ∃ Q : ByteArray, (⟨(qt 34 s.data.toList).toArray⟩ : ByteArray) = Q := ⟨_, rfl⟩
  obtain ⟨D, hD⟩ : ∃ D : ByteArray, (⟨(dbl 39 s.data.toList).toArray⟩ : ByteArray) = D := ⟨_, rfl⟩
  have hDs : (D.size : Int) ≤ 2000 := by
    have := dbl_len 39 s.data.toList
    rw [str_len] at this
    have h2 : D.size = (dbl 39 s.data.toList).length := by rw [← str_len, ← hD]
    omega
  have CQ : Hid (Calls Tryd.prog 30 #[.string s] w fun e w' => e = .returned (.string Q) ∧ Below w.heap.size w w') := by
    have := quote_any s w (by omega) hM
    rw [hQ] at this
    exact this
  have CR : Hid (∀ W : World, Calls Tryd.prog 31 #[.string s] W fun e w' => e = .returned (.string Q) ∧ W = w') := fun W => by
    have := rquote_any s W (by omega)
    rw [hQ] at this
    exact this
  have CA : Hid (∀ W : World, Below w.heap.size w W → Calls Tryd.prog 32 #[.string s, .string ⟨#[39]⟩, .string ⟨#[39, 39]⟩] W fun e w' => e = .returned (.string D) ∧ Below W.heap.size W w') := fun W hb => by
    have := replall_any s 39 W (by omega) (hM.after hb)
    rw [hD] at this
    exact this
  have CT1 : Hid (∀ W : World, Calls Tryd.prog 33 #[.string Q] W _) := fun W => qt_read 34 (.inl rfl) s Q hQ.symm hs W
  have CT2 : Hid (∀ W : World, Calls Tryd.prog 33 #[.string ((⟨#[39]⟩ : ByteArray) ++ D ++ ⟨#[39]⟩)] W _) := fun W => qt_read 39 (.inr rfl) s _ (wrap_qt hD.symm) hs W
  have C3 : Hid (∀ W : World, Calls Tryd.prog 29 #[] W fun e w' => e = .returned (.bool true) ∧ Below W.heap.size W w') := fun W => alive16_any W
  have dq : (Q.toList == Q.toList) = true := beq_self_eq_true _
  have ds : (s.toList == s.toList) = true := beq_self_eq_true _
  clear hQ hD hM
  cases sg with
  | false =>
    go_enter Tryd.func9, Tryd.ntmps9
    go_wp2_with (first
      | (go_at_call 30; refine CQ.out.mono ?_; rintro e w1 ⟨rfl, hb⟩; have B1 := Lib.hid hb; clear hb)
      | (go_at_call 31; refine (CR.out _).mono ?_; rintro e w2 ⟨rfl, rfl⟩)
      | (go_at_call 33; refine (CT1.out _).mono ?_; rintro e w3 ⟨b, o, cap, rfl, hb, c0, c1, c3, d3⟩; have B3 := Lib.hid (B1.out.trans (hb.mono B1.out.size)); have L0 := lt_of_cell c0; have HB := Lib.hid hb; clear hb)
      | (go_at_call 29; refine (C3.out _).mono ?_; rintro e w4 ⟨rfl, hb⟩; have c0' := (hb.cell (p := ⟨b, o, none⟩) L0).trans c0; have c1' := (hb.cell (p := ⟨b, o + 1, none⟩) L0).trans c1; have c3' := (hb.cell (p := ⟨b, o + 3, none⟩) L0).trans c3; have d3' := (hb.cell (p := ⟨b, o + 7, none⟩) L0).trans d3; have B4 := Lib.hid (B3.out.trans (hb.mono B3.out.size)); clear hb))
    go_ret
    exact ⟨rfl, B4.out⟩
  | true =>
    obtain ⟨Z, hZ⟩ : ∃ Z : ByteArray, (⟨#[39]⟩ : ByteArray) ++ D ++ ⟨#[39]⟩ = Z := ⟨_, rfl⟩
    rw [hZ] at CT2
    go_enter Tryd.func9, Tryd.ntmps9
    go_wp2_with (first
      | (go_at_call 30; refine CQ.out.mono ?_; rintro e w1 ⟨rfl, hb⟩; have B1 := Lib.hid hb; clear hb)
      | (go_at_call 31; refine (CR.out _).mono ?_; rintro e w2 ⟨rfl, rfl⟩)
      | (go_at_call 32; refine (CA.out _ B1.out).mono ?_; rintro e w2 ⟨rfl, hb⟩; have B2 := Lib.hid (B1.out.trans (hb.mono B1.out.size)); clear hb)
      | (go_at_call 33; refine (CT2.out _).mono ?_; rintro e w3 ⟨b, o, cap, rfl, hb, c0, c1, c3, d3⟩; have B3 := Lib.hid (B2.out.trans (hb.mono B2.out.size)); have L0 := lt_of_cell c0; clear hb)
      | (go_at_call 29; refine (C3.out _).mono ?_; rintro e w4 ⟨rfl, hb⟩; have c0' := (hb.cell (p := ⟨b, o, none⟩) L0).trans c0; have c1' := (hb.cell (p := ⟨b, o + 1, none⟩) L0).trans c1; have c3' := (hb.cell (p := ⟨b, o + 3, none⟩) L0).trans c3; have d3' := (hb.cell (p := ⟨b, o + 7, none⟩) L0).trans d3; have B4 := Lib.hid (B3.out.trans (hb.mono B3.out.size)); clear hb))
    go_ret
    exact ⟨rfl, B4.out⟩
theorem lquotes_law (s : ByteArray) (sg : Bool) (w : World) (hM : HasM w) : Calls Tryd.prog 9 #[.string s, .bool sg] w fun e w' => e = .returned (.bool true) ∧ Below w.heap.size w w' := by
  by_cases h : 300 < (s.size : Int)
  · exact lquotes_long s sg w h
  · exact lquotes_short s sg w (by omega) hM
end Go.Proofs.YtilfbnfejnjaeaaDoor
