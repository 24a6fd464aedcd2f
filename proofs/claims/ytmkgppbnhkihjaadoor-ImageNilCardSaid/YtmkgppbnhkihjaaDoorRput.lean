/- The walk of the reference's Put. -/
import Derived.Test.YtmkgppbnhkihjaaDoorRef
namespace Go.Proofs.YtmkgppbnhkihjaaDoor
open Go.RowKit

theorem el27 : El Tryd.prog 27 66 (.agg #[.int .i64 0, .int .u8 0]) 2 16 := ⟨Tryd.underlying27, by kernel_rfl, rfl, by decide⟩

theorem cl_one (L : List (Nat × UInt8)) : ∀ u ∈ cl L, u.oneCell' = true := by
  intro u hu
  simp only [cl, List.mem_flatMap] at hu
  obtain ⟨c, _, hc⟩ := hu
  simp at hc
  rcases hc with rfl | rfl <;> rfl
theorem cl_take (L : List (Nat × UInt8)) (k : Nat) : (cl L).take (k * 2) = cl (L.take k) := by
  induction L generalizing k with
  | nil => simp [cl]
  | cons c L ih =>
    cases k with
    | zero => simp [cl]
    | succ k => rw [cl_cons, show (k + 1) * 2 = k * 2 + 1 + 1 from by omega, List.take_succ_cons, List.take_succ_cons, ih, List.take_succ_cons, cl_cons]
theorem cl_drop (L : List (Nat × UInt8)) (k : Nat) : (cl L).drop (k * 2) = cl (L.drop k) := by
  induction L generalizing k with
  | nil => simp [cl]
  | cons c L ih =>
    cases k with
    | zero => simp
    | succ k => rw [cl_cons, show (k + 1) * 2 = k * 2 + 1 + 1 from by omega, List.drop_succ_cons, List.drop_succ_cons, ih, List.drop_succ_cons]
theorem take_snoc (l : List UInt8) (k : Nat) (h : k < l.length) : l.take (k + 1) = l.take k ++ [l[k]] := by
  rw [List.take_succ_eq_append_getElem h]

theorem rput_range (v : Value) (a : Int) (A : Option Addr) (n c : Nat) (w : World) (ha : a < 0 ∨ 65536 ≤ a) :
    Calls Tryd.prog 12 #[v, .int .i64 a, .slice A n c] w fun e w' => e = .returned (.tuple #[v, .int .i64 2]) ∧ w = w' := by
  rcases ha with h | h
  · have d1 : decide (a < 0) = true := by simpa using h
    go_enter Tryd.func12, Tryd.ntmps12
    go_wp2
    go_ret2
    exact ⟨rfl, rfl⟩
  · have d1 : decide (a < 0) = false := by simp; omega
    have d2 : decide (65535 < a) = true := by simp; omega
    go_enter Tryd.func12, Tryd.ntmps12
    go_wp2
    go_ret2
    exact ⟨rfl, rfl⟩
theorem rput_wrap (v : Value) (a : Nat) (A : Option Addr) (n c : Nat) (w : World) (ha : (a : Int) < 65536) (hn : (65536 : Int) < a + n) (hn2 : (n : Int) ≤ 9223372036854775807) :
    Calls Tryd.prog 12 #[v, .int .i64 a, .slice A n c] w fun e w' => e = .returned (.tuple #[v, .int .i64 10]) ∧ w = w' := by
  have d1 : decide ((a : Int) < 0) = false := by simp
  have d2 : decide ((65535 : Int) < (a : Int)) = false := by simp; omega
  have d3 : decide ((65536 : Int) - (a : Int) < (n : Int)) = true := by rw [decide_eq_true_iff]; omega
  clear hn
  go_enter Tryd.func12, Tryd.ntmps12
  go_wp2
  go_ret2
  exact ⟨rfl, rfl⟩
theorem rput_none (A : Option Addr) (L : List (Nat × UInt8)) (n c : Nat) (a : Nat) (A' : Option Addr) (c' : Nat) (w : World) (p : Nat → Prop) (ha : (a : Int) < 65536) (hn : n = L.length) (hm : (n : Int) ≤ 4611686018427387904) (h : Rd w p A (cl L)) :
    Calls Tryd.prog 12 #[.slice A n c, .int .i64 a, .slice A' 0 c'] w fun e w' => e = .returned (.tuple #[.slice A n c, .int .i64 0]) ∧ w = w' := by
  have d1 : decide ((a : Int) < 0) = false := by simp
  have d2 : decide ((65535 : Int) < (a : Int)) = false := by simp; omega
  have d3 : decide ((65536 : Int) - (a : Int) < (0 : Int)) = false := by rw [decide_eq_false_iff_not]; omega
  have H := Lib.hid (find_any A L n c a w p hn hm h)
  clear hn h
  go_enter Tryd.func12, Tryd.ntmps12
  go_wp2_with (go_at_call 27; refine H.out.mono ?_; rintro e w' ⟨rfl, rfl⟩)
  go_ret2
  exact ⟨rfl, rfl⟩
theorem rput_over (A : Option Addr) (L : List (Nat × UInt8)) (n c : Nat) (a : Nat) (A' : Option Addr) (m c' : Nat) (w : World) (p : Nat → Prop) (ha : (a : Int) < 65536) (hm0 : 0 < m) (hma : (a : Int) + m ≤ 65536) (hn : n = L.length) (hm : (n : Int) ≤ 4611686018427387904) (h : Rd w p A (cl L))
    (hf : fi L a < L.length) (ho : (L[fi L a].1 : Int) < a + m) :
    Calls Tryd.prog 12 #[.slice A n c, .int .i64 a, .slice A' m c'] w fun e w' => e = .returned (.tuple #[.slice A n c, .int .i64 4]) ∧ w = w' := by
  have H := Lib.hid (find_any A L n c a w p hn hm h)
  obtain ⟨k, hk⟩ : ∃ k, fi L a = k := ⟨_, rfl⟩
  simp only [hk] at H ho hf
  obtain ⟨b, o, rfl, _, hc, _⟩ := h.cell hf
  have d1 : decide ((a : Int) < 0) = false := by simp
  have d2 : decide ((65535 : Int) < (a : Int)) = false := by simp; omega
  have d3 : decide ((65536 : Int) - (a : Int) < (m : Int)) = false := by rw [decide_eq_false_iff_not]; omega
  have d4 : (((m : Nat) : Int) == 0) = false := by simp; omega
  have d5 : decide (((k : Nat) : Int) < (n : Int)) = true := by simp; omega
  have d6 : decide (((L[k].1 : Nat) : Int) < (a : Int) + (m : Int)) = true := by simpa using ho
  have hkn : k < n := by omega
  clear hn h hk ho
  go_enter Tryd.func12, Tryd.ntmps12
  go_wp2_with (go_at_call 27; refine H.out.mono ?_; rintro e w' ⟨rfl, rfl⟩)
  go_ret2
  exact ⟨rfl, rfl⟩

theorem rput_ok (A : Option Addr) (L : List (Nat × UInt8)) (n c : Nat) (a : Nat) (A' : Option Addr) (l : List UInt8) (c' : Nat) (w : World) (p p' : Nat → Prop) (ha : (a : Int) < 65536) (hm0 : 0 < l.length) (hma : (a : Int) + l.length ≤ 65536) (hn : n = L.length) (hm : (n : Int) ≤ 65536) (hnc : n ≤ c)
    (h : Rd w p A (cl L)) (h' : Rd w p' A' (bs l)) (hf : ∀ hf : fi L a < L.length, ¬ (L[fi L a].1 : Int) < a + l.length) :
    Calls Tryd.prog 12 #[.slice A n c, .int .i64 a, .slice A' l.length c'] w fun e w' => ∃ v, e = .returned (.tuple #[v, .int .i64 0]) ∧
      w'.ownsRow w.heap.size 66 2 v (n + l.length) (cl (L.take (fi L a) ++ nw a l ++ L.drop (fi L a))) ∧ Below w.heap.size w w' := by
  have H := Lib.hid (find_any A L n c a w p hn (by omega) h)
  have hfl := fi_le L a
  obtain ⟨k, hk⟩ : ∃ k, fi L a = k := ⟨_, rfl⟩
  simp only [hk] at H hf hfl ⊢
  have hkn : k ≤ n := by omega
  have d1 : decide ((a : Int) < 0) = false := by simp
  have d2 : decide ((65535 : Int) < (a : Int)) = false := by simp; omega
  have d3 : decide ((65536 : Int) - (a : Int) < (l.length : Int)) = false := by rw [decide_eq_false_iff_not]; omega
  have d4 : (((l.length : Nat) : Int) == 0) = false := by rw [beq_eq_false_iff_ne]; omega
  have HB : Hid (k < n → ∃ b o v1, A = some ⟨b, o, none⟩ ∧ w.cell? ⟨b, o + k * 2, none⟩ = some (.int .i64 v1) ∧ decide (v1 < (a : Int) + (l.length : Int)) = false) := fun hlt => by
    have hl : k < L.length := by omega
    obtain ⟨b, o, e, _, hc, _⟩ := h.cell hl
    exact ⟨b, o, _, e, hc, by simpa using hf hl⟩
  obtain ⟨A2, hA2⟩ : ∃ A2, cutAt A c k 2 = A2 := ⟨_, rfl⟩
  obtain ⟨r, hr⟩ : ∃ r, n - k = r := ⟨_, rfl⟩
  obtain ⟨q, hq⟩ : ∃ q, c - k = q := ⟨_, rfl⟩
  have hs1 := fun w => run_slice_hi el27 A n c k w (by omega)
  have hs2 := fun w => run_slice_lo el27 A n c k w hkn
  simp only [hA2, hr, hq] at hs2
  have HC : Hid (Rd w p A2 ((cl L).drop (k * 2))) := by
    rw [← hA2]
    exact Rd.cut h (by rw [cl_length, ← hn]) hnc
  have HT : Hid (Rd w p A ((cl L).take (k * 2))) := h.take _
  have HK := Lib.hid hkn
  have HRr := Lib.hid hr
  have HR' := Lib.hid h'
  have HN := Lib.hid hn
  clear h h' hn hf hk hA2 hr hq hkn hnc hfl
  by_cases hlt : k < n
  case' pos =>
    have hlt' := hlt
    obtain ⟨b, o, v1, rfl, hc, d6⟩ := HB.out hlt
    have d5 : decide (((k : Nat) : Int) < (n : Int)) = true := by simp; omega
    go_enter Tryd.func12, Tryd.ntmps12
    go_wp2_with (go_at_call 27; refine H.out.mono ?_; rintro e w' ⟨rfl, rfl⟩)
    clear hc d6
  case' neg =>
    have d5 : decide (((k : Nat) : Int) < (n : Int)) = false := by simp; omega
    go_enter Tryd.func12, Tryd.ntmps12
    go_wp2_with (go_at_call 27; refine H.out.mono ?_; rintro e w' ⟨rfl, rfl⟩)
  all_goals
    clear d1 d2 d3 d4 d5 H HB
    go_loopw [9, 10] (fun u v wr => ∃ i : Nat, i ≤ l.length ∧ v = .int .i64 i ∧ Hid (wr.ownsRow w.heap.size 66 2 u i (cl (nw a (l.take i)))) ∧ Hid (Below w.heap.size w wr)) (fun _ v _ => l.length - (intOf v).toNat)
    case atStart => exact ⟨0, Nat.zero_le _, rfl, World.ownsRow_nil _ _ _ _, Below.refl _ _⟩
    case round =>
      obtain ⟨i, hi, rfl, hown, hb⟩ := hrel
      by_cases hil : i < l.length
      · obtain ⟨b', o', rfl, _, hcb⟩ := (HR'.out.after hb.out).byte hil
        have hsz := hb.out.size
        go_wp2_with (at_builtin; refine wpList_app el27 rfl (.tmp 54) (.tmp 63) rfl w.heap.size _ i (cl (nw a (l.take i))) (fun _ => True) _ 1 1 [.int .i64 ((a : Int) + i), .int .u8 (l[i].toNat : Int)] rfl rfl (hown.out.alloc _) rfl (Rd.new _ _ _ trivial) (by intro u hu; simp at hu; rcases hu with rfl | rfl <;> rfl) (by simp only [maxLen]; omega) (by omega) (by simp; omega) ?_; intro v' w1 hown1 hg1 hat1 hz1; have HO1 := Lib.hid hown1; have HG1 := Lib.hid hg1; clear hown1 hg1 hat1 hz1)
        go_roundw
        case rel =>
          refine ⟨i + 1, by omega, by go_num, ?_, ?_⟩
          · have := HO1.out
            rw [take_snoc l i hil, nw_snoc, cl_append]
            have e : (l.take i).length = i := by rw [List.length_take]; omega
            rw [e]
            have e2 : cl [(a + i, l[i])] = [.int .i64 ((a : Int) + i), .int .u8 (l[i].toNat : Int)] := by simp [cl]
            rw [e2]
            exact this
          · refine (hb.out.alloc hsz _).grown HG1.out (by simp; omega) (fun q hq => (hown.out.lt q hq).1)
        case measure => simp [intOf]; omega
      · obtain rfl : i = l.length := by omega
        rw [List.take_of_length_le (Nat.le_refl _)] at hown
        obtain ⟨A9, c9, rfl, _⟩ := own_form hown.out
        have ho0 : (wr.alloc (.cells #[] 66)).ownsRow w.heap.size 66 2 (.slice (some ⟨wr.heap.size, 0, none⟩) 0 0) 0 [] := World.ownsRow_lit wr #[] 0 hb.out.size (by decide) rfl
        have hb0 : Below w.heap.size w (wr.alloc (.cells #[] 66)) := hb.out.alloc hb.out.size _
        have HO0 := Lib.hid ho0
        have HB0 := Lib.hid hb0
        clear ho0 hb0
        go_wp2
        go_region_law (first
          | (refine step_app el27 rfl (.tmp 65) (.tmp 68) rfl w.heap.size _ 0 [] p _ k c ((cl L).take (k * 2)) rfl rfl HO0.out (by rw [List.length_take, cl_length, ← HN.out]; have := HK.out; omega) (HT.out.after HB0.out.drew) (fun u hu => cl_one L u (List.mem_of_mem_take hu)) (by have := HK.out; simp only [maxLen]; omega) (by have := HK.out; omega) HB0.out.size ?_; intro v1 w1 hown1 hg1 hat1 hz1; have HO1 := Lib.hid hown1; have HB1 := Lib.hid (HB0.out.drew.grown hg1 HB0.out.size (fun q hq => (HO0.out.lt q hq).1)); have HW1 := Lib.hid (own_over hown.out (below_new hg1)); clear hown1 hg1 hat1 hz1)
          | (refine step_app el27 rfl (.tmp 69) (.tmp 70) rfl w.heap.size v1 (0 + k) _ (fun _ => True) A9 l.length c9 (cl (nw a l)) rfl rfl HO1.out (by rw [cl_length, nw_length]) (Rd.of_own HW1.out (fun _ _ _ => trivial)) (cl_one _) (by have := HK.out; simp only [maxLen]; omega) (by have := HK.out; omega) HB1.out.size ?_; intro v2 w2 hown2 hg2 hat2 hz2; have HO2 := Lib.hid hown2; have HB2 := Lib.hid (HB1.out.grown hg2 HB1.out.size (fun q hq => (HO1.out.lt q hq).1)); clear hown2 hg2 hat2 hz2)
          | (refine step_app el27 rfl (.tmp 71) (.tmp 74) rfl w.heap.size v2 (0 + k + l.length) _ p A2 r q ((cl L).drop (k * 2)) rfl rfl HO2.out (by rw [List.length_drop, cl_length, ← HN.out]; have := HRr.out; have := HK.out; omega) (HC.out.after HB2.out) (fun u hu => cl_one L u (List.mem_of_mem_drop hu)) (by have := HK.out; have := HRr.out; simp only [maxLen]; omega) (by have := HK.out; have := HRr.out; omega) HB2.out.size ?_; intro v3 w3 hown3 hg3 hat3 hz3; have HO3 := Lib.hid hown3; have HB3 := Lib.hid (HB2.out.grown hg3 HB2.out.size (fun q hq => (HO2.out.lt q hq).1)); clear hown3 hg3 hat3 hz3))
        all_goals go_wp2
        all_goals go_ret2
        all_goals
          refine ⟨v3, rfl, ?_, HB3.out⟩
          have h1 := HO3.out
          have e1 : 0 + k + l.length + r = n + l.length := by have := HK.out; have := HRr.out; omega
          rw [e1, cl_take, cl_drop, List.nil_append, ← cl_append, ← cl_append] at h1
          exact h1
end Go.Proofs.YtmkgppbnhkihjaaDoor
