/- The walk of Parse of the reference of the package record. -/
import Derived.Test.YtilfbnfejnjaeaaParse
import Derived.Deep.QuietTactic
import Derived.BigQuiet
import Derived.RegionTactic
import Derived.BigRegion
namespace Go.Proofs.Ytilfbnfejnjaeaa
open Go.RowKit

/-- What a line says: a code, a type, an address and the data. -/
def recOf (l : List UInt8) : Nat × Nat × Nat × List UInt8 :=
  match l with
  | [] => (3, 0, 0, [])
  | c :: r => if c = 58 then
      match pairs (r.map upc) with
      | none => (3, 0, 0, [])
      | some b => if b.length < 5 then (3, 0, 0, []) else if (b.headD 0).toNat ≠ b.length - 5 then (6, 0, 0, []) else if ck b ≠ 0 then (5, 0, 0, []) else
          (0, be ((b.drop 3).take 1), be ((b.drop 1).take 2), (b.drop 4).take (b.length - 5))
    else (3, 0, 0, [])
theorem recOf_no {l : List UInt8} (h : ∀ r, l ≠ 58 :: r) : recOf l = (3, 0, 0, []) := by
  unfold recOf
  match l, h with
  | [], _ => rfl
  | c :: r, h =>
    have hc : c ≠ 58 := fun e => h r (by rw [e])
    simp only [if_neg hc]
theorem recOf_none {r : List UInt8} (h : pairs (r.map upc) = none) : recOf (58 :: r) = (3, 0, 0, []) := by
  unfold recOf
  simp only [if_pos, h]
theorem recOf_some {r b : List UInt8} (h : pairs (r.map upc) = some b) : recOf (58 :: r) = if b.length < 5 then (3, 0, 0, []) else if (b.headD 0).toNat ≠ b.length - 5 then (6, 0, 0, []) else if ck b ≠ 0 then (5, 0, 0, []) else
    (0, be ((b.drop 3).take 1), be ((b.drop 1).take 2), (b.drop 4).take (b.length - 5)) := by
  unfold recOf
  simp only [if_pos, h]
theorem head_at {b : List UInt8} (h : 5 ≤ b.length) : ∃ y, b[0]? = some y ∧ b.headD 0 = y := by
  cases b with
  | nil => simp at h
  | cons y b => exact ⟨y, rfl, rfl⟩
/-- Parse, every case. -/
theorem parse_any (s : ByteArray) (w : World) (hs : (s.size : Int) ≤ 140737488355328) :
    Calls Try.prog 14 #[.string s] w (PRec w (recOf s.data.toList).1 (recOf s.data.toList).2.1 (recOf s.data.toList).2.2.1 (recOf s.data.toList).2.2.2) := by
  by_cases hc : ∃ r, s.data.toList = 58 :: r
  · obtain ⟨r, hr⟩ := hc
    rw [hr]
    cases hp : pairs (r.map upc) with
    | none => rw [recOf_none hp]; exact parse_nobytes s r w hs hr hp
    | some b =>
      rw [recOf_some hp]
      by_cases h5 : b.length < 5
      · rw [if_pos h5]; exact parse_short s r b w hs hr hp h5
      · rw [if_neg h5]
        obtain ⟨y, hy, hh⟩ := head_at (show 5 ≤ b.length by omega)
        rw [hh]
        by_cases h6 : y.toNat ≠ b.length - 5
        · rw [if_pos h6]; exact parse_len s r b y w hs hr hp (by omega) hy h6
        · rw [if_neg h6]
          by_cases h7 : ck b ≠ 0
          · rw [if_pos h7]; exact parse_sum s r b y w hs hr hp (by omega) hy (by omega) h7
          · rw [if_neg h7]; exact parse_ok s r b y w hs hr hp (by omega) hy (by omega) (by omega)
  · rw [recOf_no (fun r hr => hc ⟨r, hr⟩)]
    exact parse_nocolon s w hs (fun r hr => hc ⟨r, hr⟩)

theorem new3 (w : World) (x y z : Value) (t : TypeId) : (w.alloc (.cells #[x, y, z] t)).cell? ⟨w.heap.size, 0, none⟩ = some x ∧ (w.alloc (.cells #[x, y, z] t)).cell? ⟨w.heap.size, 1, none⟩ = some y ∧ (w.alloc (.cells #[x, y, z] t)).cell? ⟨w.heap.size, 2, none⟩ = some z := by
  have := box_three (Below.refl (w.alloc (.cells #[x, y, z] t)).heap.size (w.alloc (.cells #[x, y, z] t)))
  exact ⟨this.1, this.2.1, this.2.2.1⟩
set_option maxHeartbeats 1000000 in
theorem rparse_short (s : ByteArray) (w : World) (h : (s.size : Int) < 11) :
    Calls Try.prog 15 #[.string s] w (PRec w 3 0 0 []) := by
  go_enter Try.func15, Try.ntmps15
  go_wp2
  exact bodyPost_ret (v := .tuple #[.agg #[.int .i64 0, .int .i64 0, .slice none 0 0], .int .i64 3]) (by simp [results, Try.results15, go_sem]) rfl ⟨none, 0, rfl, Rd.nil _ _ _, (Below.refl _ _).alloc (Nat.le_refl _) _⟩
set_option maxHeartbeats 1000000 in
theorem rparse_nocolon (s : ByteArray) (c : UInt8) (w : World) (h : 11 ≤ (s.size : Int)) (hc : ∀ h : 0 < s.size, s[0] = c) (h58 : c ≠ 58) :
    Calls Try.prog 15 #[.string s] w (PRec w 3 0 0 []) := by
  have hc0 := hc (by omega)
  have d1 : ((c.toNat : Int) != 58) = true := by
    simp only [bne_iff_ne, ne_eq]
    exact fun e => h58 (UInt8.toNat_inj.1 (by show c.toNat = 58; omega))
  clear hc h58
  go_enter Try.func15, Try.ntmps15
  go_wp2
  exact bodyPost_ret (v := .tuple #[.agg #[.int .i64 0, .int .i64 0, .slice none 0 0], .int .i64 3]) (by simp [results, Try.results15, go_sem]) rfl ⟨none, 0, rfl, Rd.nil _ _ _, (Below.refl _ _).alloc (Nat.le_refl _) _⟩

theorem head58 {s : ByteArray} {r : List UInt8} (h : s.data.toList = 58 :: r) (h0 : 0 < s.size) : s[0] = 58 := by
  obtain ⟨c, h1, h2⟩ := str_at s h0
  rw [h] at h2
  rw [h1]
  exact (Option.some.inj h2).symm
theorem tail58 {s : ByteArray} {r : List UInt8} (h : s.data.toList = 58 :: r) : (s.extract 1 s.size).data.toList = r := by
  rw [Lib.extract_to_end, h]
  rfl
theorem rbytes_none {s : ByteArray} {r : List UInt8} {w : World} (hs : (s.size : Int) ≤ 140737488355328) (h : s.data.toList = 58 :: r) (hp : pairs (r.map upc) = none) :
    Calls Try.prog 45 #[.string (s.extract 1 s.size)] w fun e w' => e = .returned (.tuple #[.slice none 0 0, .bool false]) ∧ Below w.heap.size w w' := by
  have h1 := str_len (s.extract 1 s.size)
  have h2 := str_len s
  rw [tail58 h] at h1
  rw [h] at h2
  have := rbytes_any (s.extract 1 s.size) w (by rw [← h1]; simp at h2; omega)
  rw [tail58 h, hp] at this
  exact this.mono fun e w' ⟨h1, h2⟩ => ⟨h2, h1⟩
theorem rbytes_pb {s : ByteArray} {r b : List UInt8} (w : World) (hs : (s.size : Int) ≤ 140737488355328) (h : s.data.toList = 58 :: r) (hp : pairs (r.map upc) = some b) (h5 : 5 ≤ b.length) :
    Calls Try.prog 45 #[.string (s.extract 1 s.size)] (w.alloc (.cells #[.int .i64 0, .int .i64 0, .slice none 0 0] 29)) fun e w' => ∃ g o c, e = .returned (.tuple #[.slice (some ⟨g, o, none⟩) b.length c, .bool true]) ∧ PB w w' b g o c := by
  have h1 := str_len (s.extract 1 s.size)
  have h2 := str_len s
  rw [tail58 h] at h1
  rw [h] at h2
  have := rbytes_any (s.extract 1 s.size) (w.alloc (.cells #[.int .i64 0, .int .i64 0, .slice none 0 0] 29)) (by rw [← h1]; simp at h2; omega)
  rw [tail58 h, hp] at this
  refine this.mono fun e w' ⟨h4, v, he, ho⟩ => ?_
  obtain ⟨A, c, rfl, hc, _⟩ := own_form ho
  have hr : Rd w' (fun q => w.heap.size < q) A (bs b) := Rd.of_own ho (fun i hi _ => by simp at hi; omega)
  obtain ⟨g, o, rfl, _, _⟩ := hr.ex (fun e => by have := bs_length b; rw [e] at this; simp at this; omega)
  obtain ⟨x0, x1, x2, f0, f1, f2⟩ := box_three h4
  exact ⟨g, o, c, he, hr, hc, own_cap ho, below_box h4, x0, x1, x2, f0, f1, f2⟩
theorem PB.byte {w w1 : World} {b : List UInt8} {g o c k : Nat} {y : UInt8} (h : PB w w1 b g o c) (hy : b[k]? = some y) : w1.cell? ⟨g, o + k, none⟩ = some (.int .u8 (y.toNat : Int)) := by
  obtain ⟨b', o', c', e, _, h2, h3⟩ := h.rd.byteAt (lt_at hy)
  injection e with e
  injection e with e1 e2
  subst e1; subst e2
  rw [hy] at h3
  rw [Option.some.inj h3]
  exact h2
set_option maxHeartbeats 1000000 in
theorem rparse_nobytes (s : ByteArray) (r : List UInt8) (w : World) (hs : (s.size : Int) ≤ 140737488355328) (h11 : 11 ≤ (s.size : Int)) (h : s.data.toList = 58 :: r) (hp : pairs (r.map upc) = none) :
    Calls Try.prog 15 #[.string s] w (PRec w 3 0 0 []) := by
  have hc0 := head58 h (by omega)
  have C : Hid (∀ W, Calls Try.prog 45 #[.string (s.extract 1 s.size)] W fun e w' => e = .returned (.tuple #[.slice none 0 0, .bool false]) ∧ Below W.heap.size W w') := fun W => rbytes_none hs h hp
  clear h hp
  go_enter Try.func15, Try.ntmps15
  go_wp2_with (go_at_call 45; refine (C.out _).mono ?_; rintro e w1 ⟨rfl, hb⟩; have HB := Lib.hid (below_box hb); obtain ⟨x0, x1, x2, f0, f1, f2⟩ := box_three hb; clear hb)
  obtain ⟨y0, y1, y2⟩ := set3 x0 x1 x2 (.int .i64 0) (.int .i64 0) (.slice none 0 0)
  exact bodyPost_ret (v := .tuple #[.agg #[.int .i64 0, .int .i64 0, .slice none 0 0], .int .i64 3]) (by simp [results, Try.results15, go_sem, y0, y1, y2]) rfl ⟨none, 0, rfl, Rd.nil _ _ _, below_set3 HB.out (Nat.le_refl _) _ _ _⟩
set_option maxHeartbeats 1000000 in
theorem rparse_len (s : ByteArray) (r b : List UInt8) (y : UInt8) (w : World) (hs : (s.size : Int) ≤ 140737488355328) (h11 : 11 ≤ (s.size : Int)) (h : s.data.toList = 58 :: r) (hp : pairs (r.map upc) = some b) (h5 : 5 ≤ b.length) (hbl : (b.length : Int) ≤ 140737488355328) (hy : b[0]? = some y) (h6 : y.toNat ≠ b.length - 5) :
    Calls Try.prog 15 #[.string s] w (PRec w 6 0 0 []) := by
  have hc0 := head58 h (by omega)
  have C := Lib.hid (rbytes_pb w hs h hp h5)
  have HY := Lib.hid hy
  have h255 := byte_le y
  have d1 : ((y.toNat : Int) != (b.length : Int) - 5) = true := by simp; omega
  clear h hp hy h6
  go_enter Try.func15, Try.ntmps15
  go_wp2_with (go_at_call 45; refine C.out.mono ?_; rintro e w1 ⟨g, o, c, rfl, hb⟩; have HB := Lib.hid hb; obtain ⟨x0, x1, x2, f0, f1, f2⟩ := hb.box6; have hc1 : w1.cell? ⟨g, o, none⟩ = some (.int .u8 (y.toNat : Int)) := hb.byte HY.out; clear hb)
  obtain ⟨y0, y1, y2⟩ := set3 x0 x1 x2 (.int .i64 0) (.int .i64 0) (.slice none 0 0)
  exact bodyPost_ret (v := .tuple #[.agg #[.int .i64 0, .int .i64 0, .slice none 0 0], .int .i64 6]) (by simp [results, Try.results15, go_sem, y0, y1, y2]) rfl ⟨none, 0, rfl, Rd.nil _ _ _, below_set3 HB.out.bel (Nat.le_refl _) _ _ _⟩

theorem PB.front {w w1 : World} {b : List UInt8} {g o c : Nat} (h : PB w w1 b g o c) (m : Nat) : Rd w1 (fun q => w.heap.size < q) (some ⟨g, o, none⟩) (bs (b.take m)) := by
  have := h.rd.take m
  rw [show (bs b).take m = bs (b.take m) from by simp [bs]] at this
  exact this
theorem PB.rsum {w w1 : World} {b : List UInt8} {g o c m : Nat} (h : PB w w1 b g o c) (hm : m ≤ b.length) (hbl : (b.length : Int) ≤ 140737488355328) (n : Nat) :
    Calls Try.prog 20 #[.slice (some ⟨g, o, none⟩) m c] (w1.drewN n) fun e w' => e = .returned (.int .u8 (ck (b.take m) : Int)) ∧ w' = w1.drewN n := by
  have hl : (b.take m).length = m := by rw [List.length_take]; omega
  have := rsum_any (some ⟨g, o, none⟩) (b.take m) c (w1.drewN n) _ (by rw [hl]; omega) ((h.front m).keep fun _ _ _ => rfl)
  rw [hl] at this
  exact this.mono fun e w' ⟨h1, h2⟩ => ⟨h1, h2.symm⟩
theorem ck_last {b : List UInt8} {m : Nat} {z : UInt8} (hm : b.length = m + 1) (hz : b[m]? = some z) : z.toNat = ck (b.take m) ↔ ck b = 0 := by
  have e : b = b.take m ++ [z] := by rw [← take_at hz, List.take_of_length_le (by omega)]
  have h1 : tsum b = tsum (b.take m) + z.toNat := by
    conv => lhs; rw [e]
    rw [tsum_append, tsum_one]
  have := z.toNat_lt
  unfold ck
  rw [h1]
  omega
set_option maxHeartbeats 1000000 in
theorem rparse_sum (s : ByteArray) (r b : List UInt8) (y z : UInt8) (m : Nat) (w : World) (hs : (s.size : Int) ≤ 140737488355328) (h11 : 11 ≤ (s.size : Int)) (h : s.data.toList = 58 :: r) (hp : pairs (r.map upc) = some b) (h5 : 5 ≤ b.length) (hbl : (b.length : Int) ≤ 140737488355328) (hy : b[0]? = some y) (h6 : y.toNat = b.length - 5)
    (hm : b.length = m + 1) (hz : b[m]? = some z) (h7 : z.toNat ≠ ck (b.take m)) :
    Calls Try.prog 15 #[.string s] w (PRec w 5 0 0 []) := by
  have hc0 := head58 h (by omega)
  have C := Lib.hid (rbytes_pb w hs h hp h5)
  have HY := Lib.hid hy
  have HZ := Lib.hid hz
  have h255 := byte_le y
  have d1 : ((y.toNat : Int) != (b.length : Int) - 5) = false := by simp; omega
  obtain ⟨q, hq⟩ : ∃ q, ck (b.take m) = q := ⟨_, rfl⟩
  have d2 : ((z.toNat : Int) != (q : Int)) = true := by simp; omega
  have hw : IntKind.i64.wrap ((b.length : Int) - 1) = (m : Int) := by rw [IntWalk.i64_in _ (by omega)]; omega
  have hm1 : m < b.length := by omega
  have HQ := Lib.hid hq
  clear h hp hy h6 hm hz h7 hq
  go_enter Try.func15, Try.ntmps15
  go_wp2_with (go_at_call 45; refine C.out.mono ?_; rintro e w1 ⟨g, o, c, rfl, hb⟩; have HB := Lib.hid hb; have hlc := hb.low; obtain ⟨x0, x1, x2, f0, f1, f2⟩ := hb.box6; have hc1 : w1.cell? ⟨g, o, none⟩ = some (.int .u8 (y.toNat : Int)) := hb.byte HY.out; have hc2 := hb.byte HZ.out; clear hb)
  go_quiet ((go_at_call 20; exact Calls.quiet_of_same (by have := HB.out.rsum (m := m) (by omega) hbl; rw [HQ.out] at this; exact this _)))
  go_wp2
  have HB' : Hid (PB w (w1.drewN nq) b g o c) := HB.out.after (below_of_drewN _ _ _)
  obtain ⟨x0', x1', x2', _⟩ := HB'.out.box6
  obtain ⟨y0, y1, y2⟩ := set3 x0' x1' x2' (.int .i64 0) (.int .i64 0) (.slice none 0 0)
  exact bodyPost_ret (v := .tuple #[.agg #[.int .i64 0, .int .i64 0, .slice none 0 0], .int .i64 5]) (by simp [results, Try.results15, go_sem, y0, y1, y2]) rfl ⟨none, 0, rfl, Rd.nil _ _ _, below_set3 HB'.out.bel (Nat.le_refl _) _ _ _⟩
theorem rparse_end {w w1 : World} {b : List UInt8} {g o c m : Nat} (h : PB w w1 b g o c) (hm : b.length = m + 1) (t a : Int) (hm4 : 4 ≤ m) :
    PRec w 0 t a ((b.drop 4).take (b.length - 5)) (.returned (.tuple #[.agg #[.int .i64 t, .int .i64 a, .slice (some ⟨g, o + 4, none⟩) (m - 4) (c - 4)], .int .i64 0]))
      (((w1.setCell ⟨w.heap.size, 0, none⟩ (.int .i64 t)).setCell ⟨w.heap.size, 1, none⟩ (.int .i64 a)).setCell ⟨w.heap.size, 2, none⟩ (.slice (some ⟨g, o + 4, none⟩) (m - 4) (c - 4))) := by
  have hl : ((b.drop 4).take (b.length - 5)).length = m - 4 := by rw [List.length_take, List.length_drop]; omega
  refine ⟨some ⟨g, o + 4, none⟩, c - 4, by rw [hl], ?_, below_set3 h.bel (Nat.le_refl _) _ _ _⟩
  have hr := (h.rd.dropB (k := 4)).take (b.length - 5)
  rw [show (bs (b.drop 4)).take (b.length - 5) = bs ((b.drop 4).take (b.length - 5)) from by simp [bs]] at hr
  refine hr.move fun i hi hp2 => ⟨by omega, ?_⟩
  rw [Below.heap_setCell _ _ _ i (fun e => by have : i = w.heap.size := e; omega), Below.heap_setCell _ _ _ i (fun e => by have : i = w.heap.size := e; omega), Below.heap_setCell _ _ _ i (fun e => by have : i = w.heap.size := e; omega)]
set_option maxHeartbeats 4000000 in
theorem rparse_ok (s : ByteArray) (r b : List UInt8) (y y1 y2 y3 z : UInt8) (m : Nat) (w : World) (hs : (s.size : Int) ≤ 140737488355328) (h11 : 11 ≤ (s.size : Int)) (h : s.data.toList = 58 :: r) (hp : pairs (r.map upc) = some b) (h5 : 5 ≤ b.length) (hbl : (b.length : Int) ≤ 140737488355328) (hy : b[0]? = some y) (h6 : y.toNat = b.length - 5)
    (hm : b.length = m + 1) (hz : b[m]? = some z) (h7 : z.toNat = ck (b.take m)) (hy1 : b[1]? = some y1) (hy2 : b[2]? = some y2) (hy3 : b[3]? = some y3) :
    Calls Try.prog 15 #[.string s] w (PRec w 0 (y3.toNat) ((y1.toNat : Int) * 256 + (y2.toNat : Int)) ((b.drop 4).take (b.length - 5))) := by
  have hc0 := head58 h (by omega)
  have C := Lib.hid (rbytes_pb w hs h hp h5)
  have HY := Lib.hid hy
  have HZ := Lib.hid hz
  have HY1 := Lib.hid hy1
  have HY2 := Lib.hid hy2
  have HY3 := Lib.hid hy3
  have h255 := byte_le y
  have h2551 := byte_le y1
  have h2552 := byte_le y2
  have h2553 := byte_le y3
  have d1 : ((y.toNat : Int) != (b.length : Int) - 5) = false := by simp; omega
  obtain ⟨q, hq⟩ : ∃ q, ck (b.take m) = q := ⟨_, rfl⟩
  have d2 : ((z.toNat : Int) != (q : Int)) = false := by simp; omega
  have hw : IntKind.i64.wrap ((b.length : Int) - 1) = (m : Int) := by rw [IntWalk.i64_in _ (by omega)]; omega
  have hw1 : IntKind.i64.wrap ((y1.toNat : Int) * 256) = (y1.toNat : Int) * 256 := IntWalk.i64_in _ (by omega)
  have hw2 : IntKind.i64.wrap ((y1.toNat : Int) * 256 + (y2.toNat : Int)) = (y1.toNat : Int) * 256 + (y2.toNat : Int) := IntWalk.i64_in _ (by omega)
  have hm1 : m < b.length := by omega
  have hm4 : 4 ≤ m := by omega
  have HQ := Lib.hid hq
  have HM := Lib.hid hm
  clear h hp hy h6 hm hz h7 hq hy1 hy2 hy3
  go_enter Try.func15, Try.ntmps15
  go_wp2_with (go_at_call 45; refine C.out.mono ?_; rintro e w1 ⟨g, o, c, rfl, hb⟩; have HB := Lib.hid hb; have hlc := hb.low; obtain ⟨x0, x1, x2, f0, f1, f2⟩ := hb.box6; have hc1 : w1.cell? ⟨g, o, none⟩ = some (.int .u8 (y.toNat : Int)) := hb.byte HY.out; have hc2 := hb.byte HZ.out; have hc3 := hb.byte HY1.out; have hc4 := hb.byte HY2.out; have hc5 := hb.byte HY3.out; clear hb)
  go_quiet ((go_at_call 20; exact Calls.quiet_of_same (by have := HB.out.rsum (m := m) (by omega) hbl; rw [HQ.out] at this; exact this _)))
  go_wp2
  go_region
  go_wp2
  have HB' : Hid (PB w (w1.drewN (nq + 1)) b g o c) := HB.out.after (below_of_drewN _ _ _)
  have HFIN := Lib.hid (rparse_end HB'.out HM.out (y3.toNat : Int) ((y1.toNat : Int) * 256 + (y2.toNat : Int)) (by omega))
  obtain ⟨x0', x1', x2', _⟩ := HB'.out.box6
  obtain ⟨y0', y1', y2'⟩ := set3 x0' x1' x2' (.int .i64 (y3.toNat : Int)) (.int .i64 ((y1.toNat : Int) * 256 + (y2.toNat : Int))) (.slice (some ⟨g, o + 4, none⟩) (m - 4) (c - 4))
  exact bodyPost_ret (v := .tuple #[.agg #[.int .i64 (y3.toNat : Int), .int .i64 ((y1.toNat : Int) * 256 + (y2.toNat : Int)), .slice (some ⟨g, o + 4, none⟩) (m - 4) (c - 4)], .int .i64 0]) (by simp [results, Try.results15, go_sem, y0', y1', y2']) rfl HFIN.out
theorem be_two {b : List UInt8} {y1 y2 : UInt8} (h1 : b[1]? = some y1) (h2 : b[2]? = some y2) : ((be ((b.drop 1).take 2) : Nat) : Int) = (y1.toNat : Int) * 256 + (y2.toNat : Int) := by
  have e : (b.drop 1).take 2 = [y1, y2] := by
    have l1 := lt_at h1
    have l2 := lt_at h2
    rw [List.drop_eq_getElem_cons l1, List.drop_eq_getElem_cons l2]
    rw [List.getElem?_eq_getElem l1] at h1
    rw [List.getElem?_eq_getElem l2] at h2
    rw [Option.some.inj h1, Option.some.inj h2]
    rfl
  rw [e]
  simp [be]
theorem be_one {b : List UInt8} {y : UInt8} {k : Nat} (h : b[k]? = some y) : be ((b.drop k).take 1) = y.toNat := by
  have l := lt_at h
  rw [List.drop_eq_getElem_cons l]
  rw [List.getElem?_eq_getElem l] at h
  rw [Option.some.inj h]
  simp [be]
/-- Parse of the reference, every case. -/
theorem rparse_any (s : ByteArray) (w : World) (hs : (s.size : Int) ≤ 140737488355328) :
    Calls Try.prog 15 #[.string s] w (PRec w (recOf s.data.toList).1 (recOf s.data.toList).2.1 (recOf s.data.toList).2.2.1 (recOf s.data.toList).2.2.2) := by
  by_cases h11 : (s.size : Int) < 11
  · have e : recOf s.data.toList = (3, 0, 0, []) := by
      by_cases hc : ∃ r, s.data.toList = 58 :: r
      · obtain ⟨r, hr⟩ := hc
        rw [hr]
        cases hp : pairs (r.map upc) with
        | none => exact recOf_none hp
        | some b =>
          have h1 := pairs_length _ _ hp
          have h2 := str_len s
          rw [hr] at h2
          rw [List.length_map] at h1
          rw [recOf_some hp, if_pos (by simp at h2; omega)]
      · exact recOf_no (fun r hr => hc ⟨r, hr⟩)
    rw [e]
    exact rparse_short s w h11
  · by_cases hc : ∃ r, s.data.toList = 58 :: r
    · obtain ⟨r, hr⟩ := hc
      rw [hr]
      cases hp : pairs (r.map upc) with
      | none => rw [recOf_none hp]; exact rparse_nobytes s r w hs (by omega) hr hp
      | some b =>
        have h1 := pairs_length _ _ hp
        have h2 := str_len s
        rw [hr] at h2
        rw [List.length_map] at h1
        have h5 : 5 ≤ b.length := by simp at h2; omega
        have hbl : (b.length : Int) ≤ 140737488355328 := by simp at h2; omega
        rw [recOf_some hp, if_neg (by omega)]
        obtain ⟨y, hy, hh⟩ := head_at h5
        rw [hh]
        by_cases h6 : y.toNat ≠ b.length - 5
        · rw [if_pos h6]; exact rparse_len s r b y w hs (by omega) hr hp h5 hbl hy h6
        · rw [if_neg h6]
          obtain ⟨m, hm⟩ : ∃ m, b.length = m + 1 := ⟨b.length - 1, by omega⟩
          have get : ∀ k, k < b.length → ∃ z, b[k]? = some z := fun k hk => ⟨b[k], List.getElem?_eq_getElem hk⟩
          obtain ⟨z, hz⟩ := get m (by omega)
          by_cases h7 : ck b ≠ 0
          · rw [if_pos h7]; exact rparse_sum s r b y z m w hs (by omega) hr hp h5 hbl hy (by omega) hm hz (fun e => h7 ((ck_last hm hz).1 e))
          · rw [if_neg h7]
            obtain ⟨y1, hy1⟩ := get 1 (by omega)
            obtain ⟨y2, hy2⟩ := get 2 (by omega)
            obtain ⟨y3, hy3⟩ := get 3 (by omega)
            have := rparse_ok s r b y y1 y2 y3 z m w hs (by omega) hr hp h5 hbl hy (by omega) hm hz ((ck_last hm hz).2 (by omega)) hy1 hy2 hy3
            rw [← be_two hy1 hy2, ← be_one hy3] at this
            exact this
    · rw [recOf_no (fun r hr => hc ⟨r, hr⟩)]
      have h0 : 0 < s.size := by omega
      obtain ⟨c, h1, h2⟩ := str_at s h0
      refine rparse_nocolon s c w (by omega) (fun _ => h1) (fun e => ?_)
      subst e
      cases hl : s.data.toList with
      | nil => rw [hl] at h2; cases h2
      | cons a l =>
        rw [hl] at h2
        injection h2 with h2
        exact hc ⟨l, by rw [hl, h2]⟩
end Go.Proofs.Ytilfbnfejnjaeaa
