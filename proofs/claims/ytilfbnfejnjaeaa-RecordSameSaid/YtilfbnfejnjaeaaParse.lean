/- The walk of Parse of the package record. -/
import Derived.Test.YtilfbnfejnjaeaaTake
import Derived.Test.YtilfbnfejnjaeaaClone
import Derived.Deep.RegionWith
namespace Go.Proofs.Ytilfbnfejnjaeaa
open Go.RowKit

/-- What Parse of a record hands back. -/
def PRec (w : World) (code t a : Int) (d : List UInt8) (e : Ending) (w' : World) : Prop :=
  ∃ A c, e = .returned (.tuple #[.agg #[.int .i64 t, .int .i64 a, .slice A d.length c], .int .i64 code]) ∧ Rd w' (fun q => w.heap.size ≤ q) A (bs d) ∧ Below w.heap.size w w'
theorem hasColon (s : ByteArray) (r : List UInt8) (h : s.data.toList = 58 :: r) (w : World) :
    Calls Try.prog 42 #[.string s, .string ⟨#[58]⟩] w fun e w' => e = .returned (.tuple #[.string ⟨r.toArray⟩, .bool true]) ∧ w = w' := by
  refine (Try.strings_CutPrefix s ⟨#[58]⟩ w).mono fun e w' ⟨he, hw⟩ => ⟨?_, hw.symm⟩
  rw [he, h]
  rfl

theorem noColon (s : ByteArray) (h : ∀ r, s.data.toList ≠ 58 :: r) (w : World) :
    Calls Try.prog 42 #[.string s, .string ⟨#[58]⟩] w fun e w' => e = .returned (.tuple #[.string s, .bool false]) ∧ w = w' := by
  refine (Try.strings_CutPrefix s ⟨#[58]⟩ w).mono fun e w' ⟨he, hw⟩ => ⟨?_, hw.symm⟩
  have hp : Lib.hasPrefix s.data.toList [58] = false := by
    cases hl : s.data.toList with
    | nil => rfl
    | cons c r =>
      have hc : c ≠ 58 := fun e => h r (by rw [hl, e])
      simp [Lib.hasPrefix, List.isPrefixOf, Ne.symm hc]
  rw [he]
  have e2 : Lib.trimPrefix s.data.toList [58] = s.data.toList := by unfold Lib.trimPrefix; rw [hp]; rfl
  show Ending.returned (.tuple #[.string ⟨(Lib.trimPrefix s.data.toList [58]).toArray⟩, .bool (Lib.hasPrefix s.data.toList [58])]) = _
  rw [hp, e2]

/-- Bytes, for the walks. -/
theorem bytes_none {s : ByteArray} {w : World} (hs : (s.size : Int) ≤ 140737488355328) (h : pairs (s.data.toList.map upc) = none) :
    Calls Try.prog 43 #[.string s] w fun e w' => e = .returned (.tuple #[.slice none 0 0, .bool false]) ∧ Below w.heap.size w w' := by
  have := bytes_any s w hs
  rw [h] at this
  exact this.mono fun e w' ⟨h1, h2⟩ => ⟨h2, h1⟩
theorem bytes_some {s : ByteArray} {w : World} {d : List UInt8} (hs : (s.size : Int) ≤ 140737488355328) (h : pairs (s.data.toList.map upc) = some d) :
    Calls Try.prog 43 #[.string s] w fun e w' => ∃ A c, e = .returned (.tuple #[.slice A d.length c, .bool true]) ∧ w'.ownsRow w.heap.size 5 1 (.slice A d.length c) d.length (bs d) ∧ d.length ≤ c ∧ Below w.heap.size w w' := by
  have := bytes_any s w hs
  rw [h] at this
  refine this.mono fun e w' ⟨h1, v, h2, h3⟩ => ?_
  obtain ⟨A, c, rfl, hc, _⟩ := own_form h3
  exact ⟨A, c, h2, h3, hc, h1⟩
theorem below_box {w w1 : World} {o : Obj} (h : Below (w.alloc o).heap.size (w.alloc o) w1) : Below w.heap.size w w1 := ((Below.refl _ _).alloc (Nat.le_refl _) o).trans (h.mono (by simp))
theorem box_three {w w1 : World} {x y z : Value} {t : TypeId} (h : Below (w.alloc (.cells #[x, y, z] t)).heap.size (w.alloc (.cells #[x, y, z] t)) w1) :
    w1.cell? ⟨w.heap.size, 0, none⟩ = some x ∧ w1.cell? ⟨w.heap.size, 1, none⟩ = some y ∧ w1.cell? ⟨w.heap.size, 2, none⟩ = some z ∧
    w1.frozen? ⟨w.heap.size, 0, none⟩ = false ∧ w1.frozen? ⟨w.heap.size, 1, none⟩ = false ∧ w1.frozen? ⟨w.heap.size, 2, none⟩ = false := by
  have hb : w1.heap[w.heap.size]? = some (.cells #[x, y, z] t (0, 0)) := (h.block _ (by simp)).trans (heap_alloc_new w _)
  refine ⟨?_, ?_, ?_, ?_, ?_, ?_⟩ <;> simp [World.cell?, World.frozen?, hb]
theorem set3 {w1 : World} {g : Nat} {x y z : Value} (x0 : w1.cell? ⟨g, 0, none⟩ = some x) (x1 : w1.cell? ⟨g, 1, none⟩ = some y) (x2 : w1.cell? ⟨g, 2, none⟩ = some z) (a b c : Value) :
    (w1.setCell ⟨g, 0, none⟩ a).cell? ⟨g, 0, none⟩ = some a ∧ ((w1.setCell ⟨g, 0, none⟩ a).setCell ⟨g, 1, none⟩ b).cell? ⟨g, 1, none⟩ = some b ∧
    (((w1.setCell ⟨g, 0, none⟩ a).setCell ⟨g, 1, none⟩ b).setCell ⟨g, 2, none⟩ c).cell? ⟨g, 2, none⟩ = some c := by
  have h1 : (w1.setCell ⟨g, 0, none⟩ a).cell? ⟨g, 1, none⟩ = some y := by rw [World.cell?_setCell_other _ _ _ _ (by simp)]; exact x1
  have h2 : ((w1.setCell ⟨g, 0, none⟩ a).setCell ⟨g, 1, none⟩ b).cell? ⟨g, 2, none⟩ = some z := by rw [World.cell?_setCell_other _ _ _ _ (by simp), World.cell?_setCell_other _ _ _ _ (by simp)]; exact x2
  exact ⟨World.cell?_setCell_same _ _ _ x0, World.cell?_setCell_same _ _ _ h1, World.cell?_setCell_same _ _ _ h2⟩
theorem below_set3 {w w1 : World} {g : Nat} (h : Below w.heap.size w w1) (hg : w.heap.size ≤ g) (a b c : Value) : Below w.heap.size w (((w1.setCell ⟨g, 0, none⟩ a).setCell ⟨g, 1, none⟩ b).setCell ⟨g, 2, none⟩ c) :=
  ((h.setCell (p := ⟨g, 0, none⟩) hg _).setCell (p := ⟨g, 1, none⟩) hg _).setCell (p := ⟨g, 2, none⟩) hg _
theorem box_one {w w1 : World} {cs : Array Value} {t : TypeId} (h : Below (w.alloc (.cells cs t)).heap.size (w.alloc (.cells cs t)) w1) : w1.heap[w.heap.size]? = some (.cells cs t (0, 0)) := (h.block _ (by simp)).trans (heap_alloc_new w _)

set_option maxHeartbeats 1000000 in
theorem parse_nocolon (s : ByteArray) (w : World) (hs : (s.size : Int) ≤ 140737488355328) (h : ∀ r, s.data.toList ≠ 58 :: r) :
    Calls Try.prog 14 #[.string s] w (PRec w 3 0 0 []) := by
  have C := Lib.hid (noColon s h)
  have D : Hid (∀ W, Calls Try.prog 43 #[.string s] W fun e w' => ∃ A n c ok, e = .returned (.tuple #[.slice A n c, .bool ok]) ∧ Below W.heap.size W w') := fun W => by
    cases hp : pairs (s.data.toList.map upc) with
    | none => exact (bytes_none hs hp).mono fun e w' ⟨h1, h2⟩ => ⟨none, 0, 0, false, h1, h2⟩
    | some d => exact (bytes_some hs hp).mono fun e w' ⟨A, c, h1, _, _, h2⟩ => ⟨A, d.length, c, true, h1, h2⟩
  clear h
  go_enter Try.func14, Try.ntmps14
  go_wp2_with (first
    | (go_at_call 42; refine (C.out _).mono ?_; rintro e w' ⟨rfl, rfl⟩)
    | (go_at_call 43; refine (D.out _).mono ?_; rintro e w1 ⟨A, n, c, ok, rfl, hb⟩; have HB := Lib.hid (below_box hb); obtain ⟨x0, x1, x2, f0, f1, f2⟩ := box_three hb; clear hb))
  obtain ⟨y0, y1, y2⟩ := set3 x0 x1 x2 (.int .i64 0) (.int .i64 0) (.slice none 0 0)
  refine bodyPost_ret (v := .tuple #[.agg #[.int .i64 0, .int .i64 0, .slice none 0 0], .int .i64 3]) (by simp [results, Try.results14, go_sem, y0, y1, y2]) rfl ⟨none, 0, rfl, Rd.nil _ _ _, below_set3 HB.out (Nat.le_refl _) _ _ _⟩

set_option maxHeartbeats 1000000 in
theorem parse_nobytes (s : ByteArray) (r : List UInt8) (w : World) (hs : (s.size : Int) ≤ 140737488355328) (h : s.data.toList = 58 :: r) (hp : pairs (r.map upc) = none) :
    Calls Try.prog 14 #[.string s] w (PRec w 3 0 0 []) := by
  have hl : r.length + 1 = s.size := by rw [← str_len, h]; rfl
  have C := Lib.hid (hasColon s r h)
  have D : Hid (∀ W, Calls Try.prog 43 #[.string ⟨r.toArray⟩] W fun e w' => e = .returned (.tuple #[.slice none 0 0, .bool false]) ∧ Below W.heap.size W w') := fun W => bytes_none (by rw [← str_len]; show ((r.length : Nat) : Int) ≤ _; omega) hp
  clear h hp hl
  go_enter Try.func14, Try.ntmps14
  go_wp2_with (first
    | (go_at_call 42; refine (C.out _).mono ?_; rintro e w' ⟨rfl, rfl⟩)
    | (go_at_call 43; refine (D.out _).mono ?_; rintro e w1 ⟨rfl, hb⟩; have HB := Lib.hid (below_box hb); obtain ⟨x0, x1, x2, f0, f1, f2⟩ := box_three hb; clear hb))
  obtain ⟨y0, y1, y2⟩ := set3 x0 x1 x2 (.int .i64 0) (.int .i64 0) (.slice none 0 0)
  refine bodyPost_ret (v := .tuple #[.agg #[.int .i64 0, .int .i64 0, .slice none 0 0], .int .i64 3]) (by simp [results, Try.results14, go_sem, y0, y1, y2]) rfl ⟨none, 0, rfl, Rd.nil _ _ _, below_set3 HB.out (Nat.le_refl _) _ _ _⟩
set_option maxHeartbeats 1000000 in
theorem parse_short (s : ByteArray) (r b : List UInt8) (w : World) (hs : (s.size : Int) ≤ 140737488355328) (h : s.data.toList = 58 :: r) (hp : pairs (r.map upc) = some b) (h5 : b.length < 5) :
    Calls Try.prog 14 #[.string s] w (PRec w 3 0 0 []) := by
  have hl : r.length + 1 = s.size := by rw [← str_len, h]; rfl
  have C := Lib.hid (hasColon s r h)
  have D : Hid (∀ W, Calls Try.prog 43 #[.string ⟨r.toArray⟩] W fun e w' => ∃ A c, e = .returned (.tuple #[.slice A b.length c, .bool true]) ∧ w'.ownsRow W.heap.size 5 1 (.slice A b.length c) b.length (bs b) ∧ b.length ≤ c ∧ Below W.heap.size W w') := fun W => bytes_some (by rw [← str_len]; show ((r.length : Nat) : Int) ≤ _; omega) hp
  clear h hp hl
  go_enter Try.func14, Try.ntmps14
  go_wp2_with (first
    | (go_at_call 42; refine (C.out _).mono ?_; rintro e w' ⟨rfl, rfl⟩)
    | (go_at_call 43; refine (D.out _).mono ?_; rintro e w1 ⟨A, c, rfl, _, _, hb⟩; have HB := Lib.hid (below_box hb); obtain ⟨x0, x1, x2, f0, f1, f2⟩ := box_three hb; clear hb))
  obtain ⟨y0, y1, y2⟩ := set3 x0 x1 x2 (.int .i64 0) (.int .i64 0) (.slice none 0 0)
  refine bodyPost_ret (v := .tuple #[.agg #[.int .i64 0, .int .i64 0, .slice none 0 0], .int .i64 3]) (by simp [results, Try.results14, go_sem, y0, y1, y2]) rfl ⟨none, 0, rfl, Rd.nil _ _ _, below_set3 HB.out (Nat.le_refl _) _ _ _⟩

/-- The bytes of a line, once they are read. -/
structure PB (w w1 : World) (b : List UInt8) (g o c : Nat) : Prop where
  rd : Rd w1 (fun q => w.heap.size < q) (some ⟨g, o, none⟩) (bs b)
  low : b.length ≤ c
  cap : (c : Int) ≤ 9223372036854775807
  bel : Below w.heap.size w w1
  x0 : w1.cell? ⟨w.heap.size, 0, none⟩ = some (.int .i64 0)
  x1 : w1.cell? ⟨w.heap.size, 1, none⟩ = some (.int .i64 0)
  x2 : w1.cell? ⟨w.heap.size, 2, none⟩ = some (.slice none 0 0)
  f0 : w1.frozen? ⟨w.heap.size, 0, none⟩ = false
  f1 : w1.frozen? ⟨w.heap.size, 1, none⟩ = false
  f2 : w1.frozen? ⟨w.heap.size, 2, none⟩ = false
theorem bytes_pb {r b : List UInt8} (w : World) (hl : (r.length : Int) ≤ 140737488355328) (hp : pairs (r.map upc) = some b) (h5 : 5 ≤ b.length) :
    Calls Try.prog 43 #[.string ⟨r.toArray⟩] (w.alloc (.cells #[.int .i64 0, .int .i64 0, .slice none 0 0] 25)) fun e w' => ∃ g o c, e = .returned (.tuple #[.slice (some ⟨g, o, none⟩) b.length c, .bool true]) ∧ PB w w' b g o c := by
  refine (bytes_some (by rw [← str_len]; exact hl) hp).mono fun e w' ⟨A, c, h1, h2, h3, h4⟩ => ?_
  have hr : Rd w' (fun q => w.heap.size < q) A (bs b) := Rd.of_own h2 (fun i hi _ => by simp at hi; omega)
  obtain ⟨g, o, rfl, _, _⟩ := hr.ex (fun e => by have := bs_length b; rw [e] at this; simp at this; omega)
  obtain ⟨x0, x1, x2, f0, f1, f2⟩ := box_three h4
  exact ⟨g, o, c, h1, hr, h3, own_cap h2, below_box h4, x0, x1, x2, f0, f1, f2⟩
theorem PB.box6 {w w1 : World} {b : List UInt8} {g o c : Nat} (h : PB w w1 b g o c) :
    w1.cell? ⟨w.heap.size, 0, none⟩ = some (.int .i64 0) ∧ w1.cell? ⟨w.heap.size, 1, none⟩ = some (.int .i64 0) ∧ w1.cell? ⟨w.heap.size, 2, none⟩ = some (.slice none 0 0) ∧
    w1.frozen? ⟨w.heap.size, 0, none⟩ = false ∧ w1.frozen? ⟨w.heap.size, 1, none⟩ = false ∧ w1.frozen? ⟨w.heap.size, 2, none⟩ = false := ⟨h.x0, h.x1, h.x2, h.f0, h.f1, h.f2⟩
/-- What the parser's block brings about. -/
theorem PB.box {w w1 : World} {b : List UInt8} {g o c : Nat} (h : PB w w1 b g o c) (ob : Obj) : PB w (w1.alloc ob) b g o c := by
  have hb : Below w1.heap.size w1 (w1.alloc ob) := (Below.refl _ _).alloc (Nat.le_refl _) _
  have hlt := lt_of_cell h.x0
  exact ⟨h.rd.after hb, h.low, h.cap, h.bel.trans (hb.mono h.bel.size), (hb.cell (p := ⟨w.heap.size, 0, none⟩) hlt).trans h.x0, (hb.cell (p := ⟨w.heap.size, 1, none⟩) hlt).trans h.x1, (hb.cell (p := ⟨w.heap.size, 2, none⟩) hlt).trans h.x2,
    (hb.frozen (p := ⟨w.heap.size, 0, none⟩) hlt).trans h.f0, (hb.frozen (p := ⟨w.heap.size, 1, none⟩) hlt).trans h.f1, (hb.frozen (p := ⟨w.heap.size, 2, none⟩) hlt).trans h.f2⟩
theorem PB.set {w w1 : World} {b : List UInt8} {g o c q : Nat} {v : Value} (h : PB w w1 b g o c) (hq : w.heap.size < q) (hqg : q ≠ g) : PB w (w1.setCell ⟨q, 0, none⟩ v) b g o c := by
  have hk : ∀ i, i ≠ q → (w1.setCell ⟨q, 0, none⟩ v).heap[i]? = w1.heap[i]? := fun i hi => Below.heap_setCell w1 _ v i (fun e => hi e)
  have hc : ∀ k, (w1.setCell ⟨q, 0, none⟩ v).cell? ⟨w.heap.size, k, none⟩ = w1.cell? ⟨w.heap.size, k, none⟩ := fun k => World.cell?_of_block (a := ⟨w.heap.size, k, none⟩) (hk w.heap.size (by omega))
  have hf : ∀ k, (w1.setCell ⟨q, 0, none⟩ v).frozen? ⟨w.heap.size, k, none⟩ = w1.frozen? ⟨w.heap.size, k, none⟩ := fun k => World.frozen?_of_block (a := ⟨w.heap.size, k, none⟩) (hk w.heap.size (by omega))
  refine ⟨fun hx => ?_, h.low, h.cap, h.bel.setCell (p := ⟨q, 0, none⟩) (Nat.le_of_lt hq) _, (hc 0).trans h.x0, (hc 1).trans h.x1, (hc 2).trans h.x2, (hf 0).trans h.f0, (hf 1).trans h.f1, (hf 2).trans h.f2⟩
  obtain ⟨ad, e1, e2, e3⟩ := h.rd hx
  injection e1 with e1
  subst e1
  exact ⟨_, rfl, e2, fun j u hu => (World.cell?_of_block (by rw [add_block]; exact hk g (fun e => hqg e.symm))).trans (e3 j u hu)⟩

/-- The parser, once k bytes are taken. -/
structure PT (w W : World) (b : List UInt8) (g o c N k : Nat) : Prop where
  pb : PB w W b g o c
  blk : W.heap[N]? = some (.cells #[.slice (some ⟨g, o + k, none⟩) (b.length - k) (c - k)] 82 (0, 0))
  gt : w.heap.size < N
  ne : N ≠ g
theorem PB.start {w w1 : World} {b : List UInt8} {g o c : Nat} (h : PB w w1 b g o c) (hb : b ≠ []) : PT w (w1.alloc (.cells #[.slice (some ⟨g, o, none⟩) b.length c] 82)) b g o c w1.heap.size 0 := by
  refine ⟨h.box _, heap_alloc_new w1 _, lt_of_cell h.x0, fun e => ?_⟩
  obtain ⟨b', o', e1, _, h3⟩ := h.rd.ex (fun e2 => hb (List.eq_nil_of_length_eq_zero (by rw [← bs_length, e2]; rfl)))
  injection e1 with e1
  injection e1 with e1 e2
  have hl : 0 < (bs b).length := by rw [bs_length]; exact List.length_pos_iff.2 hb
  have := lt_of_cell (h3 0 _ (List.getElem?_eq_getElem hl))
  simp at this
  omega
theorem PT.cells {w W : World} {b : List UInt8} {g o c N k : Nat} (h : PT w W b g o c N k) : W.cell? ⟨N, 0, none⟩ = some (.slice (some ⟨g, o + k, none⟩) (b.length - k) (c - k)) ∧ W.frozen? ⟨N, 0, none⟩ = false :=
  ⟨by simp [World.cell?, h.blk], by simp [World.frozen?, h.blk]⟩
theorem Rd.dropB {W : World} {p : Nat → Prop} {g o k : Nat} {b : List UInt8} (h : Rd W p (some ⟨g, o, none⟩) (bs b)) : Rd W p (some ⟨g, o + k, none⟩) (bs (b.drop k)) := by
  have := h.drop k
  have e : (bs b).drop k = bs (b.drop k) := by simp [bs]
  rw [e] at this
  have e2 : (some (⟨g, o, none⟩ : Addr)).map (·.add k) = some ⟨g, o + k, none⟩ := by simp [Go.Addr.add_lit]
  rw [e2] at this
  exact this
theorem PT.take {w W : World} {b : List UInt8} {g o c N k : Nat} (h : PT w W b g o c N k) (j : Nat) (hj : j ≤ 2) (h5 : 5 ≤ b.length) (hk : k + j ≤ 4) :
    Calls Try.prog 44 #[.pointer (some ⟨N, 0, none⟩), .int .i64 (j : Int)] W fun e w' => e = .returned (.int .i64 (be ((b.drop k).take j) : Int)) ∧ PT w w' b g o c N (k + j) := by
  have hlc := h.pb.low
  obtain ⟨h1, h2⟩ := h.cells
  refine (take_any N g (o + k) (b.length - k) (c - k) j (b.drop k) _ W (by omega) (by omega) (by omega) (by simp) (by have := h.pb.cap; omega) h1 h2 h.pb.rd.dropB).mono fun e w' ⟨he, hw⟩ => ⟨he, ?_⟩
  subst hw
  refine ⟨h.pb.set h.gt h.ne, ?_, h.gt, h.ne⟩
  rw [one_set h.blk, Nat.add_assoc, Nat.sub_sub, Nat.sub_sub]
/-- The first byte, taken. -/
theorem PT.one {w W : World} {b : List UInt8} {y : UInt8} {g o c N : Nat} (h : PT w W b g o c N 0) (h5 : 5 ≤ b.length) (hy : b[0]? = some y) :
    Calls Try.prog 44 #[.pointer (some ⟨N, 0, none⟩), .int .i64 1] W fun e w' => e = .returned (.int .i64 (y.toNat : Int)) ∧ PT w w' b g o c N 1 := by
  have e1 : be ((b.drop 0).take 1) = y.toNat := by
    rw [List.drop_zero, show (1 : Nat) = 0 + 1 from rfl, take_at hy, be_snoc]
    simp [be]
  have := h.take 1 (by omega) h5 (by omega)
  rw [e1] at this
  exact this

set_option maxHeartbeats 1000000 in
theorem parse_len (s : ByteArray) (r b : List UInt8) (y : UInt8) (w : World) (hs : (s.size : Int) ≤ 140737488355328) (h : s.data.toList = 58 :: r) (hp : pairs (r.map upc) = some b) (h5 : 5 ≤ b.length) (hy : b[0]? = some y) (h6 : y.toNat ≠ b.length - 5) :
    Calls Try.prog 14 #[.string s] w (PRec w 6 0 0 []) := by
  have hl : r.length + 1 = s.size := by rw [← str_len, h]; rfl
  have C := Lib.hid (hasColon s r h)
  have D := Lib.hid (bytes_pb w (by omega) hp h5)
  have hbl : (b.length : Int) ≤ 140737488355328 := by
    have := pairs_length _ _ hp
    rw [List.length_map] at this
    omega
  have HY := Lib.hid hy
  have HB0 : Hid (b ≠ []) := fun e => by subst e; simp at h5
  have h255 := byte_le y
  have d1 : ((y.toNat : Int) != (b.length : Int) - 5) = true := by simp; omega
  clear h hp hl hy h6
  go_enter Try.func14, Try.ntmps14
  go_wp2_with (first
    | (go_at_call 42; refine (C.out _).mono ?_; rintro e w' ⟨rfl, rfl⟩)
    | (go_at_call 43; refine D.out.mono ?_; rintro e w1 ⟨g, o, c, rfl, hb⟩; have HB := Lib.hid hb; have hlc := hb.low; clear hb)
    | (go_at_call 44; refine ((HB.out.start HB0.out).one h5 HY.out).mono ?_; rintro e w2 ⟨rfl, hq⟩; have HQ := Lib.hid hq; obtain ⟨x0, x1, x2, f0, f1, f2⟩ := hq.pb.box6; clear hq))
  obtain ⟨y0, y1, y2⟩ := set3 x0 x1 x2 (.int .i64 0) (.int .i64 0) (.slice none 0 0)
  refine bodyPost_ret (v := .tuple #[.agg #[.int .i64 0, .int .i64 0, .slice none 0 0], .int .i64 6]) (by simp [results, Try.results14, go_sem, y0, y1, y2]) rfl ⟨none, 0, rfl, Rd.nil _ _ _, below_set3 HQ.out.pb.bel (Nat.le_refl _) _ _ _⟩

theorem PB.after {w w1 w2 : World} {b : List UInt8} {g o c : Nat} (h : PB w w1 b g o c) (hb : Below w1.heap.size w1 w2) : PB w w2 b g o c := by
  have hlt := lt_of_cell h.x0
  exact ⟨h.rd.after hb, h.low, h.cap, h.bel.trans (hb.mono h.bel.size), (hb.cell (p := ⟨w.heap.size, 0, none⟩) hlt).trans h.x0, (hb.cell (p := ⟨w.heap.size, 1, none⟩) hlt).trans h.x1, (hb.cell (p := ⟨w.heap.size, 2, none⟩) hlt).trans h.x2,
    (hb.frozen (p := ⟨w.heap.size, 0, none⟩) hlt).trans h.f0, (hb.frozen (p := ⟨w.heap.size, 1, none⟩) hlt).trans h.f1, (hb.frozen (p := ⟨w.heap.size, 2, none⟩) hlt).trans h.f2⟩
theorem PT.after {w W W2 : World} {b : List UInt8} {g o c N k : Nat} (h : PT w W b g o c N k) (hb : Below W.heap.size W W2) : PT w W2 b g o c N k :=
  ⟨h.pb.after hb, (hb.block N (lt_of_blk h.blk)).trans h.blk, h.gt, h.ne⟩
theorem PT.sum {w W : World} {b : List UInt8} {g o c N k : Nat} (h : PT w W b g o c N k) (hm : (b.length : Int) ≤ 140737488355328) :
    Calls Try.prog 17 #[.slice (some ⟨g, o, none⟩) b.length c] W fun e w' => e = .returned (.int .u8 (ck b : Int)) ∧ PT w w' b g o c N k :=
  (sum_any _ b c W _ hm h.pb.rd).mono fun _ _ ⟨h1, h2⟩ => ⟨h1, h.after h2⟩
theorem PT.drew {w W : World} {b : List UInt8} {g o c N k : Nat} (h : PT w W b g o c N k) : PT w W.drew b g o c N k := h.after ((Below.refl _ _).drew)
theorem PT.two {w W : World} {b : List UInt8} {g o c N : Nat} (h : PT w W b g o c N 1) (h5 : 5 ≤ b.length) :
    Calls Try.prog 44 #[.pointer (some ⟨N, 0, none⟩), .int .i64 2] W fun e w' => e = .returned (.int .i64 (be ((b.drop 1).take 2) : Int)) ∧ PT w w' b g o c N 3 := h.take 2 (by omega) h5 (by omega)
theorem PT.three {w W : World} {b : List UInt8} {g o c N : Nat} (h : PT w W b g o c N 3) (h5 : 5 ≤ b.length) :
    Calls Try.prog 44 #[.pointer (some ⟨N, 0, none⟩), .int .i64 1] W fun e w' => e = .returned (.int .i64 (be ((b.drop 3).take 1) : Int)) ∧ PT w w' b g o c N 4 := h.take 1 (by omega) h5 (by omega)
/-- The parser and the bytes, wherever the world stands. -/
def RT (W : World) (b : List UInt8) (g o c N k : Nat) : Prop :=
  W.heap[N]? = some (.cells #[.slice (some ⟨g, o + k, none⟩) (b.length - k) (c - k)] 82 (0, 0)) ∧ Rd W (fun q => q ≠ N) (some ⟨g, o, none⟩) (bs b) ∧ b.length ≤ c ∧ (c : Int) ≤ 9223372036854775807
theorem PT.rt {w W : World} {b : List UInt8} {g o c N k : Nat} (h : PT w W b g o c N k) : RT W b g o c N k := by
  refine ⟨h.blk, fun hx => ?_, h.pb.low, h.pb.cap⟩
  obtain ⟨ad, e1, _, e3⟩ := h.pb.rd hx
  injection e1 with e1
  subst e1
  exact ⟨_, rfl, fun e => h.ne e.symm, e3⟩
section
variable {W : World} {b : List UInt8} {g o c N k : Nat}
theorem RT.drew (h : RT W b g o c N k) : RT W.drew b g o c N k := ⟨h.1, h.2.1.keep fun _ _ _ => rfl, h.2.2⟩
theorem RT.alloc {ob : Obj} (h : RT W b g o c N k) : RT (W.alloc ob) b g o c N k := ⟨(heap_alloc_old W ob (lt_of_blk h.1)).trans h.1, h.2.1.after ((Below.refl _ _).alloc (Nat.le_refl _) _), h.2.2⟩
theorem RT.set (h : RT W b g o c N k) (j : Nat) : RT (W.setCell ⟨N, 0, none⟩ (.slice (some ⟨g, o + j, none⟩) (b.length - j) (c - j))) b g o c N j :=
  ⟨one_set h.1, h.2.1.keep fun i _ hi => Below.heap_setCell W _ _ i (fun e => hi e), h.2.2⟩
theorem RT.set3 (h : RT W b g o c N 1) : RT (W.setCell ⟨N, 0, none⟩ (.slice (some ⟨g, o + 3, none⟩) (b.length - 3) (c - 3))) b g o c N 3 := h.set 3
theorem RT.take (h : RT W b g o c N k) (j : Nat) (hj : j ≤ 2) (h5 : 5 ≤ b.length) (hk : k + j ≤ 4) :
    Calls Try.prog 44 #[.pointer (some ⟨N, 0, none⟩), .int .i64 (j : Int)] W fun e w' => e = .returned (.int .i64 (be ((b.drop k).take j) : Int)) ∧ W.setCell ⟨N, 0, none⟩ (.slice (some ⟨g, o + (k + j), none⟩) (b.length - (k + j)) (c - (k + j))) = w' := by
  obtain ⟨h1, h2, h3, h4⟩ := h
  refine (take_any N g (o + k) (b.length - k) (c - k) j (b.drop k) _ W (by omega) (by omega) (by omega) (by simp) (by omega) (by simp [World.cell?, h1]) (by simp [World.frozen?, h1]) h2.dropB).mono fun e w' ⟨he, hw⟩ => ⟨he, ?_⟩
  rw [← hw, Nat.add_assoc, Nat.sub_sub, Nat.sub_sub]
theorem RT.two {z : Nat} (h5 : 5 ≤ b.length) (hz : be ((b.drop 1).take 2) = z) (h : RT W b g o c N 1) :
    Calls Try.prog 44 #[.pointer (some ⟨N, 0, none⟩), .int .i64 2] W fun e w' => e = .returned (.int .i64 (z : Int)) ∧ W.setCell ⟨N, 0, none⟩ (.slice (some ⟨g, o + 3, none⟩) (b.length - 3) (c - 3)) = w' := by
  rw [← hz]
  exact h.take 2 (by omega) h5 (by omega)
theorem RT.three {z : Nat} (h5 : 5 ≤ b.length) (hz : be ((b.drop 3).take 1) = z) (h : RT W b g o c N 3) :
    Calls Try.prog 44 #[.pointer (some ⟨N, 0, none⟩), .int .i64 1] W fun e w' => e = .returned (.int .i64 (z : Int)) ∧ W.setCell ⟨N, 0, none⟩ (.slice (some ⟨g, o + 4, none⟩) (b.length - 4) (c - 4)) = w' := by
  rw [← hz]
  exact h.take 1 (by omega) h5 (by omega)
end
set_option maxHeartbeats 1000000 in
theorem parse_sum (s : ByteArray) (r b : List UInt8) (y : UInt8) (w : World) (hs : (s.size : Int) ≤ 140737488355328) (h : s.data.toList = 58 :: r) (hp : pairs (r.map upc) = some b) (h5 : 5 ≤ b.length) (hy : b[0]? = some y) (h6 : y.toNat = b.length - 5) (h7 : ck b ≠ 0) :
    Calls Try.prog 14 #[.string s] w (PRec w 5 0 0 []) := by
  have hl : r.length + 1 = s.size := by rw [← str_len, h]; rfl
  have C := Lib.hid (hasColon s r h)
  have D := Lib.hid (bytes_pb w (by omega) hp h5)
  have hbl : (b.length : Int) ≤ 140737488355328 := by
    have := pairs_length _ _ hp
    rw [List.length_map] at this
    omega
  have HY := Lib.hid hy
  have HB0 : Hid (b ≠ []) := fun e => by subst e; simp at h5
  have h255 := byte_le y
  have d1 : ((y.toNat : Int) != (b.length : Int) - 5) = false := by simp; omega
  have hck := ck_lt b
  obtain ⟨q, hq⟩ : ∃ q, ck b = q := ⟨_, rfl⟩
  have d2 : ((q : Int) != 0) = true := by simp; omega
  have HQQ := Lib.hid hq
  clear h hp hl hy h6 h7 hq
  go_enter Try.func14, Try.ntmps14
  go_wp2_with (first
    | (go_at_call 42; refine (C.out _).mono ?_; rintro e w' ⟨rfl, rfl⟩)
    | (go_at_call 43; refine D.out.mono ?_; rintro e w1 ⟨g, o, c, rfl, hb⟩; have HB := Lib.hid hb; have hlc := hb.low; clear hb)
    | (go_at_call 44; refine ((HB.out.start HB0.out).one h5 HY.out).mono ?_; rintro e w2 ⟨rfl, hq⟩; have HQ := Lib.hid hq; clear hq)
    | (go_at_call 17; refine (HQ.out.sum hbl).mono ?_; rintro e w3 ⟨rfl, hq⟩; rw [HQQ.out]; have HQ3 := Lib.hid hq; obtain ⟨x0, x1, x2, f0, f1, f2⟩ := hq.pb.box6; clear hq))
  obtain ⟨y0, y1, y2⟩ := set3 x0 x1 x2 (.int .i64 0) (.int .i64 0) (.slice none 0 0)
  refine bodyPost_ret (v := .tuple #[.agg #[.int .i64 0, .int .i64 0, .slice none 0 0], .int .i64 5]) (by simp [results, Try.results14, go_sem, y0, y1, y2]) rfl ⟨none, 0, rfl, Rd.nil _ _ _, below_set3 HQ3.out.pb.bel (Nat.le_refl _) _ _ _⟩
/-- Once all is taken, with the record's own block. -/
structure PF (w W : World) (b : List UInt8) (g o c N Q : Nat) (z2 z1 : Int) : Prop where
  pb : PB w W b g o c
  rt : RT W b g o c N 4
  box : W.heap[Q]? = some (.cells #[.int .i64 z2, .int .i64 z1, .slice none 0 0] 25 (0, 0))
  gt : w.heap.size < Q
theorem PT.fin {w W : World} {b : List UInt8} {g o c N : Nat} (h : PT w W b g o c N 1) (z2 z1 : Int) :
    PF w (((W.setCell ⟨N, 0, none⟩ (.slice (some ⟨g, o + 3, none⟩) (b.length - 3) (c - 3))).setCell ⟨N, 0, none⟩ (.slice (some ⟨g, o + 4, none⟩) (b.length - 4) (c - 4))).alloc (.cells #[.int .i64 z2, .int .i64 z1, .slice none 0 0] 25)).drew b g o c N W.heap.size z2 z1 := by
  refine ⟨(((h.pb.set h.gt h.ne).set h.gt h.ne).box _).after ((Below.refl _ _).drew), ((h.rt.set 3).set 4).alloc.drew, ?_, Nat.lt_trans h.gt (lt_of_blk h.blk)⟩
  have e : ((W.setCell ⟨N, 0, none⟩ (.slice (some ⟨g, o + 3, none⟩) (b.length - 3) (c - 3))).setCell ⟨N, 0, none⟩ (.slice (some ⟨g, o + 4, none⟩) (b.length - 4) (c - 4))).heap.size = W.heap.size := by simp [World.setCell]
  rw [← e]
  exact heap_alloc_new _ _
theorem PF.cells {w W : World} {b : List UInt8} {g o c N Q : Nat} {z2 z1 : Int} (h : PF w W b g o c N Q z2 z1) : W.cell? ⟨N, 0, none⟩ = some (.slice (some ⟨g, o + 4, none⟩) (b.length - 4) (c - 4)) := by simp [World.cell?, h.rt.1]
theorem PF.clone {w W : World} {b : List UInt8} {g o c N Q n : Nat} {z2 z1 : Int} (h : PF w W b g o c N Q z2 z1) (hn : n = b.length - 5) (hm : (b.length : Int) ≤ 140737488355328) :
    Calls Try.prog 18 #[.slice (some ⟨g, o + 4, none⟩) n (c - 4)] W fun e w' => ∃ A c', e = .returned (.slice A n c') ∧ Rd w' (fun q => W.heap.size ≤ q) A (bs ((b.drop 4).take n)) ∧ PB w w' b g o c ∧ w'.heap[Q]? = some (.cells #[.int .i64 z2, .int .i64 z1, .slice none 0 0] 25 (0, 0)) := by
  have hl : ((b.drop 4).take n).length = n := by rw [List.length_take, List.length_drop]; omega
  have hr : Rd W (fun q => q ≠ N) (some ⟨g, o + 4, none⟩) (bs ((b.drop 4).take n)) := by
    have := (h.rt.2.1.dropB (k := 4)).take n
    rw [show (bs (b.drop 4)).take n = bs ((b.drop 4).take n) from by simp [bs]] at this
    exact this
  refine (clone_any _ _ n (c - 4) W _ hl.symm (by omega) hr).mono fun e w' ⟨v, he, ho, hb⟩ => ?_
  rw [hl] at ho
  obtain ⟨A, c', rfl, _⟩ := own_form ho
  exact ⟨A, c', he, Rd.of_own ho (fun _ h _ => h), h.pb.after hb, (hb.block Q (lt_of_blk h.box)).trans h.box⟩
theorem box_facts {W : World} {Q : Nat} {x y z : Value} {t : TypeId} (h : W.heap[Q]? = some (.cells #[x, y, z] t (0, 0))) : W.cell? ⟨Q, 0, none⟩ = some x ∧ W.cell? ⟨Q, 1, none⟩ = some y ∧ W.cell? ⟨Q, 2, none⟩ = some z ∧ W.frozen? ⟨Q, 2, none⟩ = false := by
  refine ⟨?_, ?_, ?_, ?_⟩ <;> simp [World.cell?, World.frozen?, h]
theorem cell_off {w7 : World} {Q k g : Nat} {v u : Value} (h : w7.cell? ⟨g, k, none⟩ = some u) (hq : ¬ Q = g) : (w7.setCell ⟨Q, 2, none⟩ v).cell? ⟨g, k, none⟩ = some u := by
  rw [World.cell?_setCell_other _ _ _ _ (fun e => hq (by injection e))]
  exact h
theorem parse_end {w W w7 : World} {b : List UInt8} {g o c N Q n z1 z2 m : Nat} {u2 u1 : Int} {A7 : Option Addr} (h : PF w W b g o c N Q u2 u1) (hp : PB w w7 b g o c) (hr : Rd w7 (fun q => W.heap.size ≤ q) A7 (bs ((b.drop 4).take n)))
    (hn : n = m) (hz1 : be ((b.drop 1).take 2) = z1) (hz2 : be ((b.drop 3).take 1) = z2) (hnl : n ≤ b.length - 4) (c7 : Nat) :
    PRec w 0 (be ((b.drop 3).take 1)) (be ((b.drop 1).take 2)) ((b.drop 4).take m) (.returned (.tuple #[.agg #[.int .i64 (z2 : Int), .int .i64 (z1 : Int), .slice A7 n c7], .int .i64 0]))
      ((((w7.setCell ⟨Q, 2, none⟩ (.slice A7 n c7)).setCell ⟨w.heap.size, 0, none⟩ (.int .i64 (z2 : Int))).setCell ⟨w.heap.size, 1, none⟩ (.int .i64 (z1 : Int))).setCell ⟨w.heap.size, 2, none⟩ (.slice A7 n c7)) := by
  subst hn; subst hz1; subst hz2
  have hl : ((b.drop 4).take n).length = n := by rw [List.length_take, List.length_drop]; omega
  refine ⟨A7, c7, by rw [hl], ?_, below_set3 (hp.bel.setCell (p := ⟨Q, 2, none⟩) (Nat.le_of_lt h.gt) _) (Nat.le_refl _) _ _ _⟩
  have hQ := lt_of_blk h.box
  have hgt := h.gt
  refine hr.move fun i hi hp2 => ⟨by omega, ?_⟩
  rw [Below.heap_setCell _ _ _ i (fun e => by have : i = w.heap.size := e; omega), Below.heap_setCell _ _ _ i (fun e => by have : i = w.heap.size := e; omega), Below.heap_setCell _ _ _ i (fun e => by have : i = w.heap.size := e; omega), Below.heap_setCell _ _ _ i (fun e => by have : i = Q := e; omega)]
set_option maxHeartbeats 2000000 in
theorem parse_ok (s : ByteArray) (r b : List UInt8) (y : UInt8) (w : World) (hs : (s.size : Int) ≤ 140737488355328) (h : s.data.toList = 58 :: r) (hp : pairs (r.map upc) = some b) (h5 : 5 ≤ b.length) (hy : b[0]? = some y) (h6 : y.toNat = b.length - 5) (h7 : ck b = 0) :
    Calls Try.prog 14 #[.string s] w (PRec w 0 (be ((b.drop 3).take 1)) (be ((b.drop 1).take 2)) ((b.drop 4).take (b.length - 5))) := by
  have hl : r.length + 1 = s.size := by rw [← str_len, h]; rfl
  have C := Lib.hid (hasColon s r h)
  have D := Lib.hid (bytes_pb w (by omega) hp h5)
  have hbl : (b.length : Int) ≤ 140737488355328 := by
    have := pairs_length _ _ hp
    rw [List.length_map] at this
    omega
  have HY := Lib.hid hy
  have HB0 : Hid (b ≠ []) := fun e => by subst e; simp at h5
  have h255 := byte_le y
  have d1 : ((y.toNat : Int) != (b.length : Int) - 5) = false := by simp; omega
  have HQQ := Lib.hid h7
  have H6 := Lib.hid h6
  clear h hp hl hy h6 h7
  go_enter Try.func14, Try.ntmps14
  go_wp2_with (first
    | (go_at_call 42; refine (C.out _).mono ?_; rintro e w' ⟨rfl, rfl⟩)
    | (go_at_call 43; refine D.out.mono ?_; rintro e w1 ⟨g, o, c, rfl, hb⟩; have HB := Lib.hid hb; have hlc := hb.low; clear hb)
    | (go_at_call 44; refine ((HB.out.start HB0.out).one h5 HY.out).mono ?_; rintro e w2 ⟨rfl, hq⟩; have HQ := Lib.hid hq; clear hq)
    | (go_at_call 17; refine (HQ.out.sum hbl).mono ?_; rintro e w3 ⟨rfl, hq⟩; rw [HQQ.out]; have HQ3 := Lib.hid hq; clear hq))
  obtain ⟨z1, hz1⟩ : ∃ z, be ((b.drop 1).take 2) = z := ⟨_, rfl⟩
  obtain ⟨z2, hz2⟩ : ∃ z, be ((b.drop 3).take 1) = z := ⟨_, rfl⟩
  have HZ1 := Lib.hid hz1
  have HZ2 := Lib.hid hz2
  obtain ⟨hN1, hN2⟩ := HQ3.out.cells
  have hne1 : ¬ w1.heap.size = w.heap.size := by have := HQ3.out.gt; omega
  have hne2 : ¬ w.heap.size = w1.heap.size := by have := HQ3.out.gt; omega
  have HRT : Hid (RT w3 b g o c w1.heap.size 1) := HQ3.out.rt
  have hlt3 : w1.heap.size < w3.heap.size := lt_of_blk HQ3.out.blk
  have hlt4 : w.heap.size < w3.heap.size := by have := HQ3.out.gt; omega
  clear hz1 hz2
  go_region_with (first
    | (go_at_call 44; (with_reducible refine (RT.two (b := b) (g := g) (o := o) (c := c) h5 HZ1.out (by repeat (first | exact HRT.out | apply RT.drew | apply RT.alloc))).mono ?_); rintro e w4 ⟨rfl, rfl⟩)
    | (go_at_call 44; (with_reducible refine (RT.three (b := b) (g := g) (o := o) (c := c) h5 HZ2.out (by repeat (first | exact HRT.out | apply RT.drew | apply RT.alloc | apply RT.set3))).mono ?_); rintro e w5 ⟨rfl, rfl⟩))
  all_goals
    have HF := Lib.hid (HQ3.out.fin (z2 : Int) (z1 : Int))
    have hyc : y.toNat ≤ c - 4 := by have := H6.out; omega
    generalize (((w3.setCell ⟨w1.heap.size, 0, none⟩ (.slice (some ⟨g, o + 3, none⟩) (b.length - 3) (c - 3))).setCell ⟨w1.heap.size, 0, none⟩ (.slice (some ⟨g, o + 4, none⟩) (b.length - 4) (c - 4))).alloc (.cells #[.int .i64 (z2 : Int), .int .i64 (z1 : Int), .slice none 0 0] 25)).drew = W6 at HF ⊢
    have HC := Lib.hid (HF.out.clone H6.out hbl)
    have hNc := HF.out.cells
    have hlt5 := HF.out.gt
    generalize hQn : w3.heap.size = Q6 at HF HC hlt5 ⊢
    clear hQn HRT HQ HQ3 HB hN1 hN2 hlt3 hlt4
    go_wp2_with (go_at_call 18; refine HC.out.mono ?_; rintro e w7 ⟨A7, c7, rfl, hr7, hp7, hb7⟩; have HR7 := Lib.hid hr7; have HP7 := Lib.hid hp7; have HB7 := Lib.hid hb7; obtain ⟨x0, x1, x2, f0, f1, f2⟩ := hp7.box6; obtain ⟨q0, q1, q2, q3⟩ := box_facts hb7; clear hr7 hp7 hb7)
    have hQ6 : ¬ Q6 = w.heap.size := by omega
    have HFIN := Lib.hid (parse_end (n := y.toNat) HF.out HP7.out HR7.out (by rw [H6.out]) HZ1.out HZ2.out (by have := H6.out; omega) c7)
    obtain ⟨y0, y1, y2⟩ := set3 (cell_off (v := .slice A7 y.toNat c7) x0 hQ6) (cell_off x1 hQ6) (cell_off x2 hQ6) (.int .i64 (z2 : Int)) (.int .i64 (z1 : Int)) (.slice A7 y.toNat c7)
    exact bodyPost_ret (v := .tuple #[.agg #[.int .i64 (z2 : Int), .int .i64 (z1 : Int), .slice A7 y.toNat c7], .int .i64 0]) (by simp [results, Try.results14, go_sem, y0, y1, y2]) rfl HFIN.out
end Go.Proofs.Ytilfbnfejnjaeaa
