/- The walk of Parse of the reference of the package num. -/
import Derived.Test.YtilfbnfejnjaeaaDoorNcond
import Derived.Deep.DeepCutAuto
namespace Go.Proofs.YtilfbnfejnjaeaaDoor
open Go.RowKit

theorem rv_low (o : Option Nat) : -1 ≤ rvI o := by
  cases o with
  | none => exact Int.le_refl _
  | some n => show (-1 : Int) ≤ (n : Int); omega
/-- What the reference returns of the greatest value. -/
theorem dg_max {o : Option Nat} {x : Int} (h : x = rvI o) : Ending.returned (.tuple #[.int .i64 (max x 0), .bool (decide (0 ≤ x))]) = .returned (dgV o) := by
  subst h
  cases o with
  | none => rfl
  | some n =>
    show Ending.returned (.tuple #[.int .i64 (max (n : Int) 0), .bool (decide (0 ≤ (n : Int)))]) = .returned (.tuple #[.int .i64 (n : Int), .bool true])
    rw [show max (n : Int) 0 = (n : Int) from by omega, decide_eq_true (by omega)]
theorem fval0 (l : List UInt8) : fval l 0 = nval 10 (l.map upc) := (nval10_up l).symm
set_option maxHeartbeats 1000000 in
theorem rparse_few (s : ByteArray) (w : World) (h : (s.size : Int) ≤ 1) :
    Calls Tryd.prog 13 #[.string s] w fun e w' => e = .returned (dgV (pval s.data.toList)) ∧ w = w' := by
  have C := Lib.hid (value_any 10 (by decide) (by decide) s w (by omega))
  have hl : s.data.toList.length ≤ 1 := by rw [str_len]; omega
  have hn : ∀ k, 1 ≤ k → k < 6 → fval s.data.toList k = none := fun k h0 h1 => by
    match hx : s.data.toList with
    | [] => exact f_nil k h0 h1
    | [c] => exact f_one c k h0 h1
    | a :: b :: r => rw [hx] at hl; simp at hl
  have HX : Hid (rvI (nval 10 (s.data.toList.map upc)) = rvI (pval s.data.toList)) := by
    show _ = _
    rw [← xval_pval, ← fval0]
    unfold xval
    have := rv_low (fval s.data.toList 0)
    rw [hn 1 (by decide) (by decide), hn 2 (by decide) (by decide), hn 3 (by decide) (by decide), hn 4 (by decide) (by decide), hn 5 (by decide) (by decide)]
    show _ = max (max (max (max (max _ (-1)) (-1)) (-1)) (-1)) (-1)
    omega
  obtain ⟨x, hx⟩ : ∃ x, rvI (nval 10 (s.data.toList.map upc)) = x := ⟨_, rfl⟩
  rw [hx] at C HX
  have C : Hid (Calls Tryd.prog 40 #[.string s, .int .i64 10] w fun e w' => e = .returned (.int .i64 x) ∧ w = w') := C.out
  clear hl hn hx
  go_enter Tryd.func13, Tryd.ntmps13
  go_wp2_with (go_at_call 40; refine C.out.mono ?_; rintro e w1 ⟨rfl, rfl⟩)
  go_ret2
  exact ⟨dg_max HX.out, rfl⟩
theorem max_no {x v M : Int} (h : max x v = M) (hv : v = -1) (hx : -1 ≤ x) : x = M := by omega
theorem ext_front {s : ByteArray} {m : Nat} : (s.extract 0 m).data.toList = s.data.toList.take m := by
  rw [ByteArray.data_extract, Array.toList_extract]
  simp [List.extract_eq_take_drop]
theorem ext_back {s : ByteArray} {k : Nat} : (s.extract k s.size).data.toList = s.data.toList.drop k := by
  rw [ByteArray.data_extract, Array.toList_extract]
  simp only [List.extract_eq_take_drop]
  rw [List.take_of_length_le]
  rw [List.length_drop, str_len]
  exact Nat.le_refl _
theorem byte_eq (c : UInt8) (k : Nat) (hk : k < 256) : (((c.toNat : Int) == (k : Int)) = true) ↔ c = UInt8.ofNat k := by
  rw [beq_iff_eq]
  constructor
  · intro h
    apply UInt8.toNat_inj.1
    rw [UInt8.toNat_ofNat']
    omega
  · intro h
    rw [h, UInt8.toNat_ofNat']
    omega
set_option maxHeartbeats 4000000 in
set_option maxRecDepth 100000 in
theorem rparse_many (s : ByteArray) (w : World) (hs : (s.size : Int) ≤ 140737488355328) (h2 : 2 ≤ (s.size : Int)) :
    Calls Tryd.prog 13 #[.string s] w fun e w' => e = .returned (dgV (pval s.data.toList)) ∧ w = w' := by
  obtain ⟨c0, hz0, hl0⟩ := str_at s (k := 0) (by omega)
  obtain ⟨c1, hz1, hl1⟩ := str_at s (k := 1) (by omega)
  obtain ⟨m, hm⟩ : ∃ m : Nat, (s.size : Int) - 1 = (m : Int) := ⟨s.size - 1, by omega⟩
  obtain ⟨z, hzm, hlm⟩ := str_at s (k := m) (by omega)
  obtain ⟨l, hl⟩ : ∃ l, s.data.toList = l := ⟨_, rfl⟩
  have hn : l.length = s.size := by rw [← hl]; exact str_len s
  rw [hl] at hl0 hl1 hlm
  rw [hl]
  have e0 : l = c0 :: l.drop 1 := by
    cases l with
    | nil => simp at hl0
    | cons a r => simp at hl0; rw [hl0]; rfl
  have e1 : l = c0 :: c1 :: l.drop 2 := by
    match l, hl0, hl1 with
    | a :: b :: r, h0, h1 => simp at h0 h1; rw [h0, h1]; rfl
  have em : l = l.take m ++ [z] := by
    rw [← take_at hlm, List.take_of_length_le (by omega)]
  have em0 : l = c0 :: (l.drop 1).take (m - 1) ++ [z] := by
    have : l.take m = c0 :: (l.drop 1).take (m - 1) := by
      conv => lhs; rw [e0]
      obtain ⟨q, hq⟩ : ∃ q, m = q + 1 := ⟨m - 1, by omega⟩
      rw [hq, List.take_succ_cons]
      rfl
    rw [← this]
    exact em
  have ht0 : l.take m = c0 :: (l.drop 1).take (m - 1) := by
    have := em.symm.trans em0
    exact List.append_cancel_right this
  -- the conditions
  obtain ⟨b1, hb1⟩ : ∃ b, decide (2 < (s.size : Int) ∧ c0 = 48 ∧ (c1 = 120 ∨ c1 = 88)) = b := ⟨_, rfl⟩
  obtain ⟨b2, hb2⟩ : ∃ b, ((c0.toNat : Int) == 36) = b := ⟨_, rfl⟩
  obtain ⟨b5, hb5⟩ : ∃ b, ((c0.toNat : Int) == 37) = b := ⟨_, rfl⟩
  obtain ⟨b3, hb3⟩ : ∃ b, decide ((z = 104 ∨ z = 72) ∧ hv (upc c0) < 10) = b := ⟨_, rfl⟩
  obtain ⟨b4, hb4⟩ : ∃ b, decide (z = 98 ∨ z = 66) = b := ⟨_, rfl⟩
  have CV : ∀ (b : Nat) (u : ByteArray) (d : List UInt8), 2 ≤ (b : Int) → (b : Int) ≤ 16 → u.data.toList = d → d.length ≤ s.size → Calls Tryd.prog 40 #[.string u, .int .i64 (b : Int)] w fun e w' => e = .returned (.int .i64 (rvI (nval b (d.map upc)))) ∧ w = w' := fun b u d h1 h2 h3 h4 => by
    rw [← h3]
    exact value_any b h1 h2 u w (by rw [← h3, str_len] at h4; omega)
  obtain ⟨x0, hx0⟩ : ∃ x, rvI (fval l 0) = x := ⟨_, rfl⟩
  obtain ⟨v1, hv1⟩ : ∃ x, rvI (fval l 1) = x := ⟨_, rfl⟩
  obtain ⟨v2, hv2⟩ : ∃ x, rvI (fval l 2) = x := ⟨_, rfl⟩
  obtain ⟨v5, hv5⟩ : ∃ x, rvI (fval l 5) = x := ⟨_, rfl⟩
  obtain ⟨v3, hv3⟩ : ∃ x, rvI (fval l 3) = x := ⟨_, rfl⟩
  obtain ⟨v4, hv4⟩ : ∃ x, rvI (fval l 4) = x := ⟨_, rfl⟩
  obtain ⟨M1, hM1⟩ : ∃ x, max x0 v1 = x := ⟨_, rfl⟩
  obtain ⟨M2, hM2⟩ : ∃ x, max M1 v2 = x := ⟨_, rfl⟩
  obtain ⟨M5, hM5⟩ : ∃ x, max M2 v5 = x := ⟨_, rfl⟩
  obtain ⟨M3, hM3⟩ : ∃ x, max M5 v3 = x := ⟨_, rfl⟩
  obtain ⟨M4, hM4⟩ : ∃ x, max M3 v4 = x := ⟨_, rfl⟩
  have lx0 : -1 ≤ x0 := by rw [← hx0]; exact rv_low _
  have HFIN : Hid (M4 = rvI (pval l)) := by
    show _ = _
    rw [← xval_pval, ← hM4, ← hM3, ← hM5, ← hM2, ← hM1, ← hx0, ← hv1, ← hv2, ← hv5, ← hv3, ← hv4]
    rfl
  have C0 : Hid (Calls Tryd.prog 40 #[.string s, .int .i64 10] w fun e w' => e = .returned (.int .i64 x0) ∧ w = w') := by
    have := CV 10 s l (by decide) (by decide) hl (by omega)
    rw [← fval0, hx0] at this
    exact this
  have Nb1 : Hid (b1 = false → x0 = M1) := fun h => max_no hM1 (by
    rw [← hv1, f1_no (fun r c hc hcc => ?_)]; rfl
    rw [← hb1, decide_eq_false_iff_not] at h
    rw [hc] at e1 hn
    injection e1 with q1 q2
    injection q2 with q2 q3
    apply Classical.byContradiction
    intro hr
    refine h ⟨?_, q1.symm, by rw [← q2]; exact hcc⟩
    have : 0 < r.length := List.length_pos_iff.2 hr
    simp at hn
    omega) lx0
  have Tb1 : Hid (b1 = true → Calls Tryd.prog 40 #[.string (s.extract 2 s.size), .int .i64 16] w fun e w' => e = .returned (.int .i64 v1) ∧ w = w') := fun h => by
    rw [← hb1, decide_eq_true_iff] at h
    have := CV 16 (s.extract 2 s.size) (l.drop 2) (by decide) (by decide) (by rw [ext_back, hl]) (by rw [List.length_drop]; omega)
    have e : fval l 1 = nval 16 ((l.drop 2).map upc) := by
      conv => lhs; rw [e1, h.2.1]
      exact f1_yes h.2.2
    rw [← e, hv1] at this
    exact this
  have lM1 : -1 ≤ M1 := by omega
  have Nb2 : Hid (b2 = false → M1 = M2) := fun h => max_no hM2 (by
    rw [← hv2, e0, f2_no (fun hc => ?_)]; rfl
    rw [← hb2, hc] at h
    exact absurd h (by decide)) lM1
  have Tb2 : Hid (b2 = true → Calls Tryd.prog 40 #[.string (s.extract 1 s.size), .int .i64 16] w fun e w' => e = .returned (.int .i64 v2) ∧ w = w') := fun h => by
    rw [← hb2] at h
    have hc : c0 = 36 := (byte_eq c0 36 (by decide)).1 h
    have := CV 16 (s.extract 1 s.size) (l.drop 1) (by decide) (by decide) (by rw [ext_back, hl]) (by rw [List.length_drop]; omega)
    have e : fval l 2 = nval 16 ((l.drop 1).map upc) := by
      conv => lhs; rw [e0, hc]
      exact f2_yes _
    rw [← e, hv2] at this
    exact this
  have lM2 : -1 ≤ M2 := by omega
  have Nb5 : Hid (b5 = false → M2 = M5) := fun h => max_no hM5 (by
    rw [← hv5, e0, f5_no (fun hc => ?_)]; rfl
    rw [← hb5, hc] at h
    exact absurd h (by decide)) lM2
  have Tb5 : Hid (b5 = true → Calls Tryd.prog 40 #[.string (s.extract 1 s.size), .int .i64 2] w fun e w' => e = .returned (.int .i64 v5) ∧ w = w') := fun h => by
    rw [← hb5] at h
    have hc : c0 = 37 := (byte_eq c0 37 (by decide)).1 h
    have := CV 2 (s.extract 1 s.size) (l.drop 1) (by decide) (by decide) (by rw [ext_back, hl]) (by rw [List.length_drop]; omega)
    have e : fval l 5 = nval 2 ((l.drop 1).map upc) := by
      conv => lhs; rw [e0, hc]
      exact f5_yes _
    rw [← e, hv5] at this
    exact this
  have lM5 : -1 ≤ M5 := by omega
  have Nb3 : Hid (b3 = false → M5 = M3) := fun h => max_no hM3 (by
    rw [← hb3, decide_eq_false_iff_not] at h
    rw [← hv3]
    by_cases hzz : z = 104 ∨ z = 72
    · rw [em0, f3_yes _ hzz, if_neg (fun hx => h ⟨hzz, hx⟩)]; rfl
    · rw [em, f3_no _ hzz]; rfl) lM5
  have Tb3 : Hid (b3 = true → Calls Tryd.prog 40 #[.string (s.extract 0 m), .int .i64 16] w fun e w' => e = .returned (.int .i64 v3) ∧ w = w') := fun h => by
    rw [← hb3, decide_eq_true_iff] at h
    have := CV 16 (s.extract 0 m) (l.take m) (by decide) (by decide) (by rw [ext_front, hl]) (by rw [List.length_take]; omega)
    have e : fval l 3 = nval 16 ((l.take m).map upc) := by
      conv => lhs; rw [em0]
      rw [f3_yes _ h.1, if_pos h.2, ht0]
    rw [← e, hv3] at this
    exact this
  have lM3 : -1 ≤ M3 := by omega
  have Nb4 : Hid (b4 = false → M3 = M4) := fun h => max_no hM4 (by
    rw [← hb4, decide_eq_false_iff_not] at h
    rw [← hv4, em, f4_no _ h]; rfl) lM3
  have Tb4 : Hid (b4 = true → Calls Tryd.prog 40 #[.string (s.extract 0 m), .int .i64 2] w fun e w' => e = .returned (.int .i64 v4) ∧ w = w') := fun h => by
    rw [← hb4, decide_eq_true_iff] at h
    have := CV 2 (s.extract 0 m) (l.take m) (by decide) (by decide) (by rw [ext_front, hl]) (by rw [List.length_take]; omega)
    have e : fval l 4 = nval 2 ((l.take m).map upc) := by
      conv => lhs; rw [em]
      exact f4_yes _ h
    rw [← e, hv4] at this
    exact this
  have HM1 := Lib.hid hM1
  have HM2 := Lib.hid hM2
  have HM5 := Lib.hid hM5
  have HM3 := Lib.hid hM3
  have HM4 := Lib.hid hM4
  have D3 : ((s.size : Int) ≤ 2 ∧ b1 = false) ∨ (2 < (s.size : Int) ∧ ((c0.toNat : Int) == 48) = false ∧ b1 = false) ∨ (2 < (s.size : Int) ∧ ((c0.toNat : Int) == 48) = true ∧ ((c1.toNat : Int) == 120) = true ∧ b1 = true) ∨ (2 < (s.size : Int) ∧ ((c0.toNat : Int) == 48) = true ∧ ((c1.toNat : Int) == 120) = false ∧ ((c1.toNat : Int) == 88) = b1) := by
    have k0 := byte_eq c0 48 (by decide)
    have k1 := byte_eq c1 120 (by decide)
    have k2 := byte_eq c1 88 (by decide)
    by_cases g1 : 2 < (s.size : Int)
    · by_cases g2 : c0 = 48
      · by_cases g3 : c1 = 120
        · exact .inr (.inr (.inl ⟨g1, k0.2 g2, k1.2 g3, by rw [← hb1, decide_eq_true_iff]; exact ⟨g1, g2, .inl g3⟩⟩))
        · refine .inr (.inr (.inr ⟨g1, k0.2 g2, by rw [Bool.eq_false_iff]; exact fun h => g3 (k1.1 h), ?_⟩))
          rw [← hb1, Bool.eq_iff_iff, decide_eq_true_iff]
          exact ⟨fun h => ⟨g1, g2, .inr (k2.1 h)⟩, fun h => by rcases h.2.2 with h | h; exact absurd h g3; exact k2.2 h⟩
      · exact .inr (.inl ⟨g1, by rw [Bool.eq_false_iff]; exact fun h => g2 (k0.1 h), by rw [← hb1, decide_eq_false_iff_not]; exact fun h => g2 h.2.1⟩)
    · exact .inl ⟨by omega, by rw [← hb1, decide_eq_false_iff_not]; exact fun h => g1 h.1⟩
  obtain ⟨q, hq⟩ : ∃ q : Int, ((hv (upc c0) : Nat) : Int) = q := ⟨_, rfl⟩
  have D9 : (((z.toNat : Int) == 104) = true ∧ decide (q < 10) = b3) ∨ (((z.toNat : Int) == 104) = false ∧ ((z.toNat : Int) == 72) = true ∧ decide (q < 10) = b3) ∨ (((z.toNat : Int) == 104) = false ∧ ((z.toNat : Int) == 72) = false ∧ b3 = false) := by
    have k0 := byte_eq z 104 (by decide)
    have k1 := byte_eq z 72 (by decide)
    have hd : (z = 104 ∨ z = 72) → decide (q < 10) = b3 := fun h => by
      rw [← hb3, decide_eq_decide, ← hq]
      exact ⟨fun h2 => ⟨h, by omega⟩, fun h2 => by omega⟩
    by_cases g1 : z = 104
    · exact .inl ⟨k0.2 g1, hd (.inl g1)⟩
    · have f1 : ((z.toNat : Int) == 104) = false := by rw [Bool.eq_false_iff]; exact fun h => g1 (k0.1 h)
      by_cases g2 : z = 72
      · exact .inr (.inl ⟨f1, k1.2 g2, hd (.inr g2)⟩)
      · exact .inr (.inr ⟨f1, by rw [Bool.eq_false_iff]; exact fun h => g2 (k1.1 h), by rw [← hb3, decide_eq_false_iff_not]; exact fun h => h.1.elim g1 g2⟩)
  have D11 : (((z.toNat : Int) == 98) = true ∧ b4 = true) ∨ (((z.toNat : Int) == 98) = false ∧ ((z.toNat : Int) == 66) = b4) := by
    have k0 := byte_eq z 98 (by decide)
    have k1 := byte_eq z 66 (by decide)
    by_cases g1 : z = 98
    · exact .inl ⟨k0.2 g1, by rw [← hb4, decide_eq_true_iff]; exact .inl g1⟩
    · refine .inr ⟨by rw [Bool.eq_false_iff]; exact fun h => g1 (k0.1 h), ?_⟩
      rw [← hb4, Bool.eq_iff_iff, decide_eq_true_iff]
      exact ⟨fun h => .inr (k1.1 h), fun h => by rcases h with h | h; exact absurd h g1; exact k1.2 h⟩
  have CD : Hid (Calls Tryd.prog 41 #[.int .u8 (c0.toNat : Int)] w fun e w' => e = .returned (.int .i64 q) ∧ w = w') := by rw [← hq]; exact rdigit_any c0 w
  have D3 := Lib.hid D3
  have D9 := Lib.hid D9
  have D11 := Lib.hid D11
  obtain ⟨y0, hy0⟩ : ∃ y : Int, (c0.toNat : Int) = y := ⟨_, rfl⟩
  obtain ⟨y1, hy1⟩ : ∃ y : Int, (c1.toNat : Int) = y := ⟨_, rfl⟩
  obtain ⟨yz, hyz⟩ : ∃ y : Int, (z.toNat : Int) = y := ⟨_, rfl⟩
  rw [hy0] at D3 CD hb2 hb5
  rw [hy1] at D3
  rw [hyz] at D9 D11
  have hm1 : m < s.size := by omega
  have hx1 : 1 < (s.size : Int) := by omega
  have hxw : IntKind.i64.wrap ((s.size : Int) - 1) = (m : Int) := by rw [IntWalk.i64_in _ (by omega)]; exact hm
  clear hl0 hl1 hlm hn e0 e1 em em0 ht0 hb1 hb3 hb4 CV hx0 hv1 hv2 hv5 hv3 hv4 hM1 hM2 hM5 hM3 hM4 lx0 lM1 lM2 lM5 lM3 hl hq
  go_enter Tryd.func13, Tryd.ntmps13
  go_upto_region 3 with (go_at_call 40; refine C0.out.mono ?_; rintro e w1 ⟨rfl, rfl⟩)
  go_cut [26] (fun s26 wx => s26 = .bool b1 ∧ w = wx)
  case first =>
    rcases D3.out with ⟨g1, g2⟩ | ⟨g1, g2, g3⟩ | ⟨g1, g2, g3, g4⟩ | ⟨g1, g2, g3, g4⟩
    all_goals
      go_wp2_with fail
      go_meet
      exact ⟨by simp_all, rfl⟩
  case rest =>
  obtain ⟨rfl, rfl⟩ := hcut
  go_upto_if 26 with fail
  go_cut [5] (fun s5 wx => s5 = .int .i64 M1 ∧ w = wx)
  case first =>
    cases b1 with
    | false =>
      have HM := Lib.hid (Nb1.out rfl)
      go_wp2_with fail
      go_meet
      exact ⟨by rw [HM.out], rfl⟩
    | true =>
      have HC := Lib.hid (Tb1.out rfl)
      go_wp2_with (go_at_call 40; refine HC.out.mono ?_; rintro e w1 ⟨rfl, rfl⟩)
      go_meet
      exact ⟨by rw [← HM1.out], rfl⟩
  case rest =>
  obtain ⟨rfl, rfl⟩ := hcut
  go_upto_if 38 with fail
  go_cut [5] (fun s5 wx => s5 = .int .i64 M2 ∧ w = wx)
  case first =>
    cases b2 with
    | false =>
      have HM := Lib.hid (Nb2.out rfl)
      go_wp2_with fail
      go_meet
      exact ⟨by rw [HM.out], rfl⟩
    | true =>
      have HC := Lib.hid (Tb2.out rfl)
      go_wp2_with (go_at_call 40; refine HC.out.mono ?_; rintro e w1 ⟨rfl, rfl⟩)
      go_meet
      exact ⟨by rw [← HM2.out], rfl⟩
  case rest =>
  obtain ⟨rfl, rfl⟩ := hcut
  go_upto_if 50 with fail
  go_cut [5] (fun s5 wx => s5 = .int .i64 M5 ∧ w = wx)
  case first =>
    cases b5 with
    | false =>
      have HM := Lib.hid (Nb5.out rfl)
      go_wp2_with fail
      go_meet
      exact ⟨by rw [HM.out], rfl⟩
    | true =>
      have HC := Lib.hid (Tb5.out rfl)
      go_wp2_with (go_at_call 40; refine HC.out.mono ?_; rintro e w1 ⟨rfl, rfl⟩)
      go_meet
      exact ⟨by rw [← HM5.out], rfl⟩
  case rest =>
  obtain ⟨rfl, rfl⟩ := hcut
  go_upto_region 9 with fail
  go_cut [77] (fun s77 wx => s77 = .bool b3 ∧ w = wx)
  case first =>
    rcases D9.out with ⟨g1, g2⟩ | ⟨g1, g2, g3⟩ | ⟨g1, g2, g3⟩
    all_goals
      go_wp2_with (go_at_call 41; refine CD.out.mono ?_; rintro e w1 ⟨rfl, rfl⟩)
      go_meet
      exact ⟨by simp_all, rfl⟩
  case rest =>
  obtain ⟨rfl, rfl⟩ := hcut
  go_upto_if 77 with fail
  go_cut [5] (fun s5 wx => s5 = .int .i64 M3 ∧ w = wx)
  case first =>
    cases b3 with
    | false =>
      have HM := Lib.hid (Nb3.out rfl)
      go_wp2_with fail
      go_meet
      exact ⟨by rw [HM.out], rfl⟩
    | true =>
      have HC := Lib.hid (Tb3.out rfl)
      go_wp2_with (go_at_call 40; refine HC.out.mono ?_; rintro e w1 ⟨rfl, rfl⟩)
      go_meet
      exact ⟨by rw [← HM3.out], rfl⟩
  case rest =>
  obtain ⟨rfl, rfl⟩ := hcut
  go_upto_region 11 with fail
  go_cut [100] (fun s100 wx => s100 = .bool b4 ∧ w = wx)
  case first =>
    rcases D11.out with ⟨g1, g2⟩ | ⟨g1, g2⟩
    all_goals
      go_wp2_with fail
      go_meet
      exact ⟨by simp_all, rfl⟩
  case rest =>
  obtain ⟨rfl, rfl⟩ := hcut
  go_upto_if 100 with fail
  go_cut [5] (fun s5 wx => s5 = .int .i64 M4 ∧ w = wx)
  case first =>
    cases b4 with
    | false =>
      have HM := Lib.hid (Nb4.out rfl)
      go_wp2_with fail
      go_meet
      exact ⟨by rw [HM.out], rfl⟩
    | true =>
      have HC := Lib.hid (Tb4.out rfl)
      go_wp2_with (go_at_call 40; refine HC.out.mono ?_; rintro e w1 ⟨rfl, rfl⟩)
      go_meet
      exact ⟨by rw [← HM4.out], rfl⟩
  case rest =>
  obtain ⟨rfl, rfl⟩ := hcut
  go_wp2_with fail
  go_ret2
  exact ⟨dg_max HFIN.out, rfl⟩
/-- Parse of the reference. -/
theorem rparse_num (s : ByteArray) (w : World) (hs : (s.size : Int) ≤ 140737488355328) :
    Calls Tryd.prog 13 #[.string s] w fun e w' => e = .returned (dgV (pval s.data.toList)) ∧ w = w' := by
  by_cases h : (s.size : Int) ≤ 1
  · exact rparse_few s w h
  · exact rparse_many s w hs (by omega)
end Go.Proofs.YtilfbnfejnjaeaaDoor
