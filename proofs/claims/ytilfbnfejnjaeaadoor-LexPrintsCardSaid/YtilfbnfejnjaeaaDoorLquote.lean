/- The walks of Quote of the package lex and of its reference, and of the statement LexQuotes. -/
import Derived.Test.YtilfbnfejnjaeaaDoorAlive16
import Derived.Lib.ReplaceLaws
import Derived.Lib.CountLaws
namespace Go.Proofs.YtilfbnfejnjaeaaDoor
open Go.RowKit

/-- The bytes, each mark twice. -/
def dbl (m : UInt8) : List UInt8 → List UInt8
  | [] => []
  | c :: r => if c = m then m :: m :: dbl m r else c :: dbl m r
theorem dbl_append (m : UInt8) : ∀ a b : List UInt8, dbl m (a ++ b) = dbl m a ++ dbl m b
  | [], b => rfl
  | c :: a, b => by
    rw [List.cons_append, dbl, dbl_append m a b, dbl]
    split <;> rfl
theorem dbl_none {m : UInt8} : ∀ {a : List UInt8}, (∀ c ∈ a, c ≠ m) → dbl m a = a
  | [], _ => rfl
  | c :: a, h => by rw [dbl, if_neg (h c (by simp)), dbl_none (fun d hd => h d (by simp [hd]))]
theorem dbl_one (m c : UInt8) : dbl m [c] = if c = m then [m, m] else [c] := by
  rw [dbl]
  split <;> rfl
theorem dbl_len (m : UInt8) : ∀ l : List UInt8, (dbl m l).length ≤ 2 * l.length
  | [] => Nat.le_refl _
  | c :: r => by
    have := dbl_len m r
    rw [dbl]
    split <;> (simp; omega)
theorem quo_dbl {m : UInt8} {r : List UInt8} (hr : r.head? ≠ some m) : ∀ l : List UInt8, quo m (dbl m l ++ m :: r) = some (l, (dbl m l).length + 1)
  | [] => by
    cases r with
    | nil => exact quo_cons_end m
    | cons d r => exact quo_cons_stop (fun e => hr (by rw [e]; rfl)) r
  | c :: l => by
    have ih := quo_dbl hr l
    rw [dbl]
    by_cases hc : c = m
    · subst hc
      rw [if_pos rfl, List.cons_append, List.cons_append, quo_cons_two, ih]
      simp
    · rw [if_neg hc, List.cons_append, quo_cons_ne hc, ih]
      simp
theorem replace_dbl (m : UInt8) : ∀ (n : Nat) (s : List UInt8), s.length ≤ n → Lib.replaceK [m] [m, m] (Lib.count s [m]) s = dbl m s := by
  intro n
  induction n with
  | zero =>
    intro s hs
    rw [List.eq_nil_of_length_eq_zero (show s.length = 0 by omega)]
    rfl
  | succ n ih =>
    intro s hs
    have hi := Lib.index_one s m
    by_cases h0 : Lib.indexByte s m < 0
    · have hm : Lib.index s [m] = -1 := by have := ib_low s m; omega
      rw [Lib.count_miss hm, dbl_none (ib_none h0)]
      rfl
    · obtain ⟨a, r, hs2, ha, hn⟩ := ib_some (l := s) (m := m) rfl (by omega)
      have hm : Lib.index s [m] = (a.length : Int) := by rw [hi, ha]
      have hd : s.drop (a.length + 1) = r := by rw [hs2, List.drop_append, List.drop_eq_nil_of_le (by omega)]; simp
      have ht : s.take a.length = a := by rw [hs2]; simp
      rw [Lib.count_hit (by simp) hm, Nat.add_comm, Lib.replaceK_hit _ _ _ _ _ hm, ht]
      show a ++ [m, m] ++ Lib.replaceK [m] [m, m] (Lib.count (s.drop (a.length + 1)) [m]) (s.drop (a.length + 1)) = _
      rw [hd, ih r (by rw [hs2] at hs; simp at hs; omega), hs2, dbl_append, dbl_none hn]
      rw [show dbl m (m :: r) = m :: m :: dbl m r from by rw [dbl, if_pos rfl]]
      simp
theorem replaceAll_dbl (m : UInt8) (s : List UInt8) : Lib.replaceAll s [m] [m, m] = dbl m s := by
  unfold Lib.replaceAll Lib.replace
  have h : (([m] : List UInt8) == [m, m]) = false := beq_eq_false_iff_ne.2 (by simp)
  rw [h]
  have h2 : Lib.replaceNum s [m] (-1) = Lib.count s [m] := by
    unfold Lib.replaceNum
    rw [if_pos (.inl (by decide))]
  rw [h2]
  exact replace_dbl m _ s (Nat.le_refl _)
/-- The form of a string in marks. -/
def qt (m : UInt8) (l : List UInt8) : List UInt8 := m :: (dbl m l ++ [m])
theorem qt_len (m : UInt8) (l : List UInt8) : (qt m l).length ≤ 2 * l.length + 2 := by
  have := dbl_len m l
  unfold qt
  simp
  omega
/-- The world has the library's number. -/
def HasM (w : World) : Prop := ∃ m : Int, w.cell? ⟨1, 0, none⟩ = some (.int .i64 m)
theorem HasM.after {w w' : World} (h : HasM w) (hb : Below w.heap.size w w') : HasM w' := by
  obtain ⟨m, hm⟩ := h
  exact ⟨m, (hb.cell (p := ⟨1, 0, none⟩) (lt_of_cell hm)).trans hm⟩
theorem replall_any (s : ByteArray) (m : UInt8) (w : World) (hs : (s.size : Int) ≤ 1000) (hM : HasM w) :
    Calls Tryd.prog 32 #[.string s, .string ⟨#[m]⟩, .string ⟨#[m, m]⟩] w fun e w' => e = .returned (.string ⟨(dbl m s.data.toList).toArray⟩) ∧ Below w.heap.size w w' := by
  obtain ⟨mm, hm⟩ := hM
  have hcount : Lib.countB s ⟨#[m]⟩ ≤ s.size + 1 := by
    have := Lib.count_le s.data.toList [m]
    rw [str_len] at this
    exact this
  have h2 : ((⟨#[m, m]⟩ : ByteArray).size) = 2 := rfl
  refine (Tryd.strings_ReplaceAll s ⟨#[m]⟩ ⟨#[m, m]⟩ mm w (by omega) hm (Nat.le_refl 1) (by rw [h2]; omega)).mono fun e w' h => ?_
  have e2 : Lib.replaceAll s.data.toList ((⟨#[m]⟩ : ByteArray).data.toList) ((⟨#[m, m]⟩ : ByteArray).data.toList) = dbl m s.data.toList := replaceAll_dbl m _
  rw [e2] at h
  exact h
theorem wrap_qt {D : ByteArray} {m : UInt8} {l : List UInt8} (h : D = ⟨(dbl m l).toArray⟩) : ((⟨#[m]⟩ : ByteArray) ++ D) ++ ⟨#[m]⟩ = ⟨(qt m l).toArray⟩ := by
  subst h
  apply bytes_of
  rw [ByteArray.data_append, ByteArray.data_append, Array.toList_append, Array.toList_append]
  simp [qt]
theorem quote_any (s : ByteArray) (w : World) (hs : (s.size : Int) ≤ 1000) (hM : HasM w) :
    Calls Tryd.prog 30 #[.string s] w fun e w' => e = .returned (.string ⟨(qt 34 s.data.toList).toArray⟩) ∧ Below w.heap.size w w' := by
  obtain ⟨D, hD⟩ : ∃ D : ByteArray, (⟨(dbl 34 s.data.toList).toArray⟩ : ByteArray) = D := ⟨_, rfl⟩
  have hDs : (D.size : Int) ≤ 2000 := by
    have := dbl_len 34 s.data.toList
    rw [str_len] at this
    have h2 : D.size = (dbl 34 s.data.toList).length := by rw [← str_len, ← hD]
    omega
  have C : Hid (Calls Tryd.prog 32 #[.string s, .string ⟨#[34]⟩, .string ⟨#[34, 34]⟩] w fun e w' => e = .returned (.string D) ∧ Below w.heap.size w w') := by
    have := replall_any s 34 w hs hM
    rw [hD] at this
    exact this
  have HQ := Lib.hid (wrap_qt hD.symm)
  rw [← HQ.out]
  clear hD hM
  go_enter Tryd.func30, Tryd.ntmps30
  go_wp2_with (go_at_call 32; refine C.out.mono ?_; rintro e w1 ⟨rfl, hb⟩; have B1 := Lib.hid hb; clear hb)
  go_ret
  exact ⟨rfl, B1.out⟩
theorem app_two {T : ByteArray} {acc : List UInt8} (h : T = ⟨acc.toArray⟩) (b : ByteArray) (l : List UInt8) (hb : b = ⟨l.toArray⟩) : T ++ b = ⟨(acc ++ l).toArray⟩ := by
  subst h hb
  apply bytes_of
  rw [ByteArray.data_append, Array.toList_append]
theorem ext_byte {s : ByteArray} {l : List UInt8} {j : Nat} {c : UInt8} (hl : s.data.toList = l) (h : l[j]? = some c) : s.extract j (j + 1) = ⟨#[c]⟩ := by
  have h' : (s.extract j (j + 1)).data.toList = [c] := by
    rw [ext_mid, hl, List.drop_eq_getElem_cons (lt_at h), (List.getElem_eq_iff (lt_at h)).2 h]
    simp
  exact bytes_of h'
set_option maxHeartbeats 1000000 in
theorem rquote_any (s : ByteArray) (w : World) (hs : (s.size : Int) ≤ 1000) :
    Calls Tryd.prog 31 #[.string s] w fun e w' => e = .returned (.string ⟨(qt 34 s.data.toList).toArray⟩) ∧ w = w' := by
  obtain ⟨l, hl⟩ : ∃ l, s.data.toList = l := ⟨_, rfl⟩
  have HL := Lib.hid hl
  have HLs : Hid (l.length = s.size) := by rw [Hid, ← hl]; exact str_len s
  have HA : Hid (∀ j (h : j < s.size), ∃ c : UInt8, s[j] = c ∧ l[j]? = some c) := by subst hl; exact fun j h => str_at s h
  obtain ⟨Q, hQ⟩ : ∃ Q : ByteArray, (⟨(qt 34 l).toArray⟩ : ByteArray) = Q := ⟨_, rfl⟩
  have HQ := Lib.hid hQ
  rw [hl, hQ]
  clear hl hQ
  go_enter Tryd.func31, Tryd.ntmps31
  go_wp2
  go_loop [3, 4] (fun u v => ∃ (T : ByteArray) (j : Nat), u = .string T ∧ v = .int .i64 (j : Int) ∧ j ≤ s.size ∧ T.size ≤ 2 * j + 1 ∧ Hid (T = ⟨(34 :: dbl 34 (l.take j)).toArray⟩)) (fun _ v => s.size - (intOf v).toNat)
  case atStart => exact ⟨⟨#[34]⟩, 0, rfl, rfl, Nat.zero_le _, by decide, rfl⟩
  case round =>
    obtain ⟨T, j, rfl, rfl, hj, hTs, hT⟩ := hrel
    have hTi : (T.size : Int) ≤ 3000 := by omega
    by_cases hlt : j < s.size
    · have hji : (j : Int) < (s.size : Int) := by omega
      obtain ⟨d, hd, hld⟩ := HA.out j hlt
      have hX := ext_byte HL.out hld
      have hT1 : (T ++ ⟨#[34]⟩ : ByteArray).size = T.size + 1 := by rw [ByteArray.size_append]; rfl
      have hT2 : (T ++ ⟨#[d]⟩ : ByteArray).size = T.size + 1 := by rw [ByteArray.size_append]; rfl
      have hT3 : (T ++ ⟨#[34]⟩ ++ ⟨#[d]⟩ : ByteArray).size = T.size + 2 := by rw [ByteArray.size_append, hT1]; rfl
      by_cases hd34 : d = 34
      · have d1 : ((d.toNat : Int) == 34) = true := by rw [hd34]; rfl
        have HN : Hid (T ++ ⟨#[34]⟩ ++ ⟨#[d]⟩ = ⟨(34 :: dbl 34 (l.take (j + 1))).toArray⟩) := by
          show _ = _
          rw [app_two (app_two hT.out ⟨#[34]⟩ [34] rfl) ⟨#[d]⟩ [d] rfl, take_at hld, dbl_append, dbl_one, if_pos hd34, hd34]
          simp
        have hT1i : ((T ++ ⟨#[34]⟩ : ByteArray).size : Int) ≤ 3001 := by omega
        have HS : Hid ((T ++ ⟨#[34]⟩ ++ ⟨#[d]⟩ : ByteArray).size ≤ 2 * (j + 1) + 1) := by show _ ≤ _; omega
        clear hld hd34 hT1 hT2 hT3
        go_wp2
        go_round
        case rel => exact ⟨_, j + 1, rfl, by go_num, by omega, HS.out, HN.out⟩
        case measure => simp [intOf]; omega
      · have d1 : ((d.toNat : Int) == 34) = false := byte_ne hd34 (by decide)
        have HN : Hid (T ++ ⟨#[d]⟩ = ⟨(34 :: dbl 34 (l.take (j + 1))).toArray⟩) := by
          show _ = _
          rw [app_two hT.out ⟨#[d]⟩ [d] rfl, take_at hld, dbl_append, dbl_one, if_neg hd34]
          simp
        have HS : Hid ((T ++ ⟨#[d]⟩ : ByteArray).size ≤ 2 * (j + 1) + 1) := by show _ ≤ _; omega
        clear hld hd34 hT1 hT2 hT3
        go_wp2
        go_round
        case rel => exact ⟨_, j + 1, rfl, by go_num, by omega, HS.out, HN.out⟩
        case measure => simp [intOf]; omega
    · obtain rfl : j = s.size := by omega
      obtain rfl : T ++ ⟨#[34]⟩ = Q := by
        rw [← HQ.out, app_two hT.out ⟨#[34]⟩ [34] rfl, List.take_of_length_le (Nat.le_of_eq HLs.out)]
        rfl
      go_wp2
      go_ret
      exact ⟨rfl, rfl⟩
end Go.Proofs.YtilfbnfejnjaeaaDoor
