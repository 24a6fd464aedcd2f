/- The walks of math/bits.TrailingZeros64 and of the methods next, has and add of a set of addresses. -/
import Derived.Test.YtmkgppbnhkihjaaDoorRows
import Derived.Test.YtmkgppbnhkihjaaDoorBits
import Derived.Test.YtmkgppbnhkihjaaDoorKit
import Derived.Shelf.Spec.TrailingZeros
namespace Go.Proofs.YtmkgppbnhkihjaaDoor
open Go.RowKit Go.Shelf

set_option maxHeartbeats 1000000 in
theorem tz_core (x k idx : Nat) (w : World) (hx0 : ((x : Int) == 0) = false)
    (key : IntKind.u64.wrap (bits BinOp.and IntKind.u64 (x : Int) (IntKind.u64.wrap (-(x : Int))) * 285870213051353865) / 288230376151711744 = (idx : Int))
    (hi : idx < 64) (hk : k < 64) (hcell : w.cell? ⟨0, idx, none⟩ = some (.int .u8 k)) :
    Calls Tryd.prog 35 #[.int .u64 x] w fun e w' => e = .returned (.int .i64 k) ∧ w = w' := by
  go_enter Tryd.func35, Tryd.ntmps35
  go_wp2_with (simp only [key])
  go_ret
  exact ⟨rfl, rfl⟩
theorem tz_zero (w : World) : Calls Tryd.prog 35 #[.int .u64 0] w fun e w' => e = .returned (.int .i64 64) ∧ w = w' := by
  go_enter Tryd.func35, Tryd.ntmps35
  go_wp2
  go_ret
  exact ⟨rfl, rfl⟩
theorem tz_any (x : Nat) (hx : x < 18446744073709551616) (hx0 : 0 < x) (w : World) (hT : TabAt 0 Lib.deBruijn64tab w) :
    Calls Tryd.prog 35 #[.int .u64 x] w fun e w' => e = .returned (.int .i64 (Lib.ctz 64 x)) ∧ w = w' := by
  obtain ⟨hlow, hk⟩ := Lib.lowest_bit 64 x (by omega) hx
  obtain ⟨hi, htab⟩ := Lib.deBruijn64_at _ hk
  have hcell := hT _ hi
  rw [htab] at hcell
  exact tz_core x _ _ w (by simp; omega) (tz64_key x _ hx (by omega) hlow) hi hk hcell

/-- The number of addresses, under a name. -/
def top : Nat := 65536


theorem next_stop {T : Nat → Bool} {a k : Nat} (h1 : a ≤ k) (hn : ∀ x, a ≤ x → x < k → T x = false) (hk : ¬ (k : Int) < 65536) (h2 : k ≤ 65536) : nxt T a = 65536 :=
  nxt_eq ⟨by omega, Nat.le_refl _, fun x g1 g2 => hn x g1 (by omega), fun h => absurd h (by omega)⟩
theorem next_here {S : Nat → Bool} {a k q : Nat} (h1 : a ≤ k) (hn : ∀ x, a ≤ x → x < k → S x = false) (hk : (k : Int) < 65536) (hq : wd S (k / 64) / 2 ^ (k % 64) = q) (h0 : 0 < q) :
    nxt S a = k + Lib.ctz 64 q ∧ k + Lib.ctz 64 q < 65536 := by
  have hqlt : q < 2 ^ 64 := by
    rw [← hq]
    have h2 := wd_lt S (k / 64)
    have h3 : wd S (k / 64) / 2 ^ (k % 64) ≤ wd S (k / 64) := Nat.div_le_self _ _
    have h4 : (2 : Nat) ^ 64 = 18446744073709551616 := by decide
    omega
  obtain ⟨m, hm, hlt⟩ := Lib.ctzFrom_spec 64 q h0 hqlt
  have e : Lib.ctz 64 q = Lib.ctzFrom 64 q := by unfold Lib.ctz; rw [if_neg (by omega)]
  rw [e]
  obtain ⟨c1, c2, c3⟩ := shift_first S k (Lib.ctzFrom 64 q) q m hq hm
  have hlt2 : k + Lib.ctzFrom 64 q < 65536 := by omega
  refine ⟨nxt_eq ⟨by omega, by omega, fun x g1 g2 => ?_, fun _ => c2⟩, hlt2⟩
  by_cases hx : x < k
  · exact hn x g1 hx
  · exact c3 x (by omega) g2
theorem word_lt {S : Nat → Bool} {k q : Nat} (hq : wd S (k / 64) / 2 ^ (k % 64) = q) : q < 18446744073709551616 := by
  rw [← hq]
  exact Nat.lt_of_le_of_lt (Nat.div_le_self _ _) (wd_lt S _)

set_option maxRecDepth 100000 in
theorem next_yes (b : Nat) (S : Nat → Bool) (a : Nat) (w : World) (ha : a ≤ 65536)
    (hw : ∀ k, k < 1024 → w.cell? ⟨b, k, none⟩ = some (.int .u64 (wd S k))) (hT : TabAt 0 Lib.deBruijn64tab w) :
    Calls Tryd.prog 28 #[.pointer (some ⟨b, 0, none⟩), .int .i64 a, .bool true] w fun e w' => e = .returned (.int .i64 (nxt S a)) ∧ w = w' := by
  go_enter Tryd.func28, Tryd.ntmps28
  go_wp2
  go_loop [1, 7] (fun v u => ∃ k : Nat, a ≤ k ∧ k ≤ 65536 ∧ v = .int .i64 k ∧ Hid (∀ x, a ≤ x → x < k → S x = false)) (fun v _ => top - (intOf v).toNat)
  case atStart => exact ⟨a, Nat.le_refl _, ha, rfl, fun x h1 h2 => by omega⟩
  case round =>
    obtain ⟨k, h1, h2, rfl, hn⟩ := hrel
    have H1 := Lib.hid h1
    have H2 := Lib.hid h2
    have HA := Lib.hid ha
    have HT := Lib.hid hT
    clear hT
    by_cases hlt : (k : Int) < 65536
    · have hc := hw (k / 64) (by omega)
      clear hw
      obtain ⟨q, hq⟩ : ∃ q : Nat, wd S (k / 64) / 2 ^ (k % 64) = q := ⟨_, rfl⟩
      have hq' : ((wd S (k / 64) : Nat) : Int) / 2 ^ (k % 64) = (q : Int) := by rw [← hq]; simp
      by_cases hq0 : q = 0
      · subst hq0
        have hno := Lib.hid (shift_zero S k hq)
        clear h1 h2 ha hq
        go_wp2
        have g1 := H1.out
        have g2 := H2.out
        refine ⟨⟨(k / 64 + 1) * 64, by omega, by omega, by go_num, fun x y1 y2 => ?_⟩, by unfold top; simp only [intOf]; omega⟩
        by_cases hx : x < k
        · exact hn.out x y1 hx
        · exact hno.out x (by omega) y2
      · have h0 : 0 < q := by omega
        obtain ⟨f1, f2⟩ := next_here h1 hn.out hlt hq h0
        have HQ := Lib.hid (word_lt hq)
        have HF := Lib.hid f1
        have hcb : 0 ≤ ((Lib.ctz 64 q : Nat) : Int) := by omega
        have hkb : (k : Int) + (Lib.ctz 64 q : Nat) < 65536 := by omega
        clear h1 h2 ha hn f1 f2
        have hne : ((q : Int) != 0) = true := by simp; omega
        clear hq hq0
        go_wp2_with (go_at_call 35; refine (tz_any q HQ.out h0 _ HT.out).mono ?_; rintro e w' ⟨rfl, rfl⟩)
        go_ret
        exact ⟨ret_int (by rw [HF.out]; simp), rfl⟩
    · clear h1 h2 ha hw
      go_wp2
      go_ret
      exact ⟨ret_int (by rw [next_stop H1.out hn.out (by omega) H2.out]; rfl), rfl⟩

theorem wd_xor (S : Nat → Bool) (k : Nat) : bits BinOp.xor IntKind.u64 (if IntKind.u64.signed = true then -1 else IntKind.u64.max) ((wd S k : Nat) : Int) = ((wd (fun x => !S x) k : Nat) : Int) := by
  have e1 : (if IntKind.u64.signed = true then -1 else IntKind.u64.max) = ((18446744073709551615 : Nat) : Int) := by simp [IntKind.signed, IntKind.max, IntKind.bits]
  rw [e1, bits_xor_u64_nat _ _ (by decide) (wd_lt S k)]
  congr 1
  apply Nat.eq_of_testBit_eq
  intro j
  rw [Nat.testBit_xor, wd_bit, wd_bit, show (18446744073709551615 : Nat) = 2 ^ 64 - 1 from by decide, Nat.testBit_two_pow_sub_one]
  by_cases hj : j < 64 <;> simp [hj]

set_option maxRecDepth 100000 in
theorem next_no_core (b : Nat) (S S' : Nat → Bool) (a : Nat) (w : World) (ha : a ≤ 65536) (hX : ∀ k, bits BinOp.xor IntKind.u64 (if IntKind.u64.signed = true then -1 else IntKind.u64.max) ((wd S k : Nat) : Int) = ((wd S' k : Nat) : Int))
    (hw : ∀ k, k < 1024 → w.cell? ⟨b, k, none⟩ = some (.int .u64 (wd S k))) (hT : TabAt 0 Lib.deBruijn64tab w) :
    Calls Tryd.prog 28 #[.pointer (some ⟨b, 0, none⟩), .int .i64 a, .bool false] w fun e w' => e = .returned (.int .i64 (nxt S' a)) ∧ w = w' := by
  go_enter Tryd.func28, Tryd.ntmps28
  go_wp2
  go_loop [1, 7] (fun v u => ∃ k : Nat, a ≤ k ∧ k ≤ 65536 ∧ v = .int .i64 k ∧ Hid (∀ x, a ≤ x → x < k → S' x = false)) (fun v _ => top - (intOf v).toNat)
  case atStart => exact ⟨a, Nat.le_refl _, ha, rfl, fun x h1 h2 => by omega⟩
  case round =>
    obtain ⟨k, h1, h2, rfl, hn⟩ := hrel
    have H1 := Lib.hid h1
    have H2 := Lib.hid h2
    have HA := Lib.hid ha
    have HT := Lib.hid hT
    clear hT
    by_cases hlt : (k : Int) < 65536
    · have hc := hw (k / 64) (by omega)
      clear hw
      have hxor := hX (k / 64)
      clear hX
      obtain ⟨q, hq⟩ : ∃ q : Nat, wd S' (k / 64) / 2 ^ (k % 64) = q := ⟨_, rfl⟩
      have hq' : ((wd S' (k / 64) : Nat) : Int) / 2 ^ (k % 64) = (q : Int) := by rw [← hq]; simp
      by_cases hq0 : q = 0
      · subst hq0
        have hno := Lib.hid (shift_zero S' k hq)
        clear h1 h2 ha hq
        go_wp2
        have g1 := H1.out
        have g2 := H2.out
        refine ⟨⟨(k / 64 + 1) * 64, by omega, by omega, by go_num, fun x y1 y2 => ?_⟩, by unfold top; simp only [intOf]; omega⟩
        by_cases hx : x < k
        · exact hn.out x y1 hx
        · exact hno.out x (by omega) y2
      · have h0 : 0 < q := by omega
        obtain ⟨f1, f2⟩ := next_here h1 hn.out hlt hq h0
        have HQ := Lib.hid (word_lt hq)
        have HF := Lib.hid f1
        have hcb : 0 ≤ ((Lib.ctz 64 q : Nat) : Int) := by omega
        have hkb : (k : Int) + (Lib.ctz 64 q : Nat) < 65536 := by omega
        clear h1 h2 ha hn f1 f2
        have hne : ((q : Int) != 0) = true := by simp; omega
        clear hq hq0
        go_wp2_with (go_at_call 35; refine (tz_any q HQ.out h0 _ HT.out).mono ?_; rintro e w' ⟨rfl, rfl⟩)
        go_ret
        exact ⟨ret_int (by rw [HF.out]; simp), rfl⟩
    · clear h1 h2 ha hw
      go_wp2
      go_ret
      exact ⟨ret_int (by rw [next_stop H1.out hn.out (by omega) H2.out]; rfl), rfl⟩
theorem next_no (b : Nat) (S : Nat → Bool) (a : Nat) (w : World) (ha : a ≤ 65536)
    (hw : ∀ k, k < 1024 → w.cell? ⟨b, k, none⟩ = some (.int .u64 (wd S k))) (hT : TabAt 0 Lib.deBruijn64tab w) :
    Calls Tryd.prog 28 #[.pointer (some ⟨b, 0, none⟩), .int .i64 a, .bool false] w fun e w' => e = .returned (.int .i64 (nxt (fun x => !S x) a)) ∧ w = w' :=
  next_no_core b S _ a w ha (wd_xor S) hw hT

theorem has_bit (S : Nat → Bool) (a : Nat) : (bits BinOp.and IntKind.u64 (((wd S (a / 64) : Nat) : Int) / 2 ^ (a % 64)) 1 == 1) = S a := by
  have e : ((wd S (a / 64) : Nat) : Int) / 2 ^ (a % 64) = ((wd S (a / 64) / 2 ^ (a % 64) : Nat) : Int) := by simp
  have e1 : (1 : Int) = ((1 : Nat) : Int) := rfl
  rw [e, e1, bits_and_u64_nat _ _ (word_lt rfl) (by decide)]
  have h := wd_bit S (a / 64) (a % 64)
  have e2 : 64 * (a / 64) + a % 64 = a := by omega
  have e3 : a % 64 < 64 := by omega
  rw [e2] at h
  simp only [e3, decide_true, Bool.true_and] at h
  rw [← h, Nat.testBit_eq_decide_div_mod_eq, Nat.and_one_is_mod]
  rw [Bool.eq_iff_iff]
  simp only [beq_iff_eq, decide_eq_true_eq]
  omega
/-- The method has: one bit of the set. -/
theorem has_any (b : Nat) (S : Nat → Bool) (a : Nat) (w : World) (ha : (a : Int) < 65536)
    (hw : ∀ k, k < 1024 → w.cell? ⟨b, k, none⟩ = some (.int .u64 (wd S k))) :
    Calls Tryd.prog 31 #[.pointer (some ⟨b, 0, none⟩), .int .i64 a] w fun e w' => e = .returned (.bool (S a)) ∧ w = w' := by
  have hc := hw (a / 64) (by omega)
  clear hw
  go_enter Tryd.func31, Tryd.ntmps31
  go_wp2_with fail
  go_ret
  exact ⟨ret_bool (has_bit S a), rfl⟩

/-- Block b is an image: the set S of addresses, their number n, the byte of each address. -/
structure IsImg (cs : Array Value) (S : Nat → Bool) (n : Nat) (D : Nat → UInt8) : Prop where
  size : cs.size = 66561
  words : ∀ k, k < 1024 → cs[k]? = some (.int .u64 (wd S k))
  count : cs[1024]? = some (.int .i64 n)
  bytes : ∀ a, a < 65536 → cs[1025 + a]? = some (.int .u8 (D a).toNat)
def Img (w : World) (b : Nat) (S : Nat → Bool) (n : Nat) (D : Nat → UInt8) : Prop := ∃ cs, w.heap[b]? = some (.cells cs 63 (0, 0)) ∧ IsImg cs S n D

section
variable {w w' : World} {b n : Nat} {S : Nat → Bool} {D : Nat → UInt8}
theorem Img.word (h : Img w b S n D) : ∀ k, k < 1024 → w.cell? ⟨b, k, none⟩ = some (.int .u64 (wd S k)) := fun k hk => by
  obtain ⟨cs, hb, hi⟩ := h
  simpa [World.cell?, hb] using hi.words k hk
theorem Img.count (h : Img w b S n D) : w.cell? ⟨b, 1024, none⟩ = some (.int .i64 n) := by
  obtain ⟨cs, hb, hi⟩ := h
  simpa [World.cell?, hb] using hi.count
theorem Img.byte (h : Img w b S n D) : ∀ a, a < 65536 → w.cell? ⟨b, 1025 + a, none⟩ = some (.int .u8 (D a).toNat) := fun k hk => by
  obtain ⟨cs, hb, hi⟩ := h
  simpa [World.cell?, hb] using hi.bytes k hk
theorem Img.free (h : Img w b S n D) (k : Nat) : w.frozen? ⟨b, k, none⟩ = false := by
  obtain ⟨cs, hb, hi⟩ := h
  simp [World.frozen?, hb]
theorem Img.lt (h : Img w b S n D) : b < w.heap.size := by
  obtain ⟨cs, hb, _⟩ := h
  rcases Nat.lt_or_ge b w.heap.size with hlt | hge
  · exact hlt
  · rw [Array.getElem?_eq_none hge] at hb; cases hb
theorem Img.of_block (h : Img w b S n D) (hb : w'.heap[b]? = w.heap[b]?) : Img w' b S n D := by
  obtain ⟨cs, h1, h2⟩ := h
  exact ⟨cs, hb.trans h1, h2⟩
theorem heap_set {cs : Array Value} {t : TypeId} (h : w.heap[b]? = some (.cells cs t (0, 0))) (k : Nat) (u : Value) :
    (w.setCell ⟨b, k, none⟩ u).heap[b]? = some (.cells (cs.setIfInBounds k u) t (0, 0)) := by
  simp [World.setCell, Array.getElem?_modify, h]
theorem Img.add (h : Img w b S n D) (a : Nat) (ha : a < 65536) :
    Img ((w.setCell ⟨b, a / 64, none⟩ (.int .u64 (wd (ins S a) (a / 64)))).setCell ⟨b, 1024, none⟩ (.int .i64 (n + 1))) b (ins S a) (n + 1) D := by
  obtain ⟨cs, hb, hi⟩ := h
  refine ⟨_, heap_set (heap_set hb _ _) _ _, ?_, fun k hk => ?_, ?_, fun x hx => ?_⟩
  · simp [hi.size]
  · rw [Array.getElem?_setIfInBounds_ne (by omega)]
    by_cases he : a / 64 = k
    · subst he
      rw [Array.getElem?_setIfInBounds_self_of_lt (by rw [hi.size]; omega)]
    · rw [Array.getElem?_setIfInBounds_ne he, hi.words k hk, wd_ins_ne S a k (fun e => he e.symm)]
  · rw [Array.getElem?_setIfInBounds_self_of_lt (by simp [hi.size])]
    simp
  · rw [Array.getElem?_setIfInBounds_ne (by omega), Array.getElem?_setIfInBounds_ne (by omega), hi.bytes x hx]
end

theorem wd_or (S : Nat → Bool) (a : Nat) : bits BinOp.or IntKind.u64 ((wd S (a / 64) : Nat) : Int) (IntKind.u64.wrap (2 ^ (a % 64))) = ((wd (ins S a) (a / 64) : Nat) : Int) := by
  have e : (2 : Int) ^ (a % 64) = ((2 ^ (a % 64) : Nat) : Int) := by simp
  have h2 : 2 ^ (a % 64) < 18446744073709551616 := by
    have h : (2 : Nat) ^ (a % 64) < 2 ^ 64 := Nat.pow_lt_pow_right (by decide) (by omega)
    simpa using h
  have e3 : IntKind.u64.wrap (2 ^ (a % 64)) = ((2 ^ (a % 64) : Nat) : Int) := by
    rw [e, IntKind.wrap_u64]
    generalize 2 ^ (a % 64) = m at h2 ⊢
    omega
  rw [e3, bits_or_u64_nat _ _ (wd_lt S _) h2, wd_ins]


theorem add_any (b n : Nat) (S : Nat → Bool) (D : Nat → UInt8) (a : Nat) (w : World) (ha : (a : Int) < 65536) (hn : (n : Int) ≤ 65536) (hI : Img w b S n D) :
    Calls Tryd.prog 29 #[.pointer (some ⟨b, 0, none⟩), .int .i64 a] w fun e w' => e = .returned (.tuple #[]) ∧ Img w' b (ins S a) (n + 1) D ∧ w.grownBy w' (some b) := by
  have hc := hI.word (a / 64) (by omega)
  have hk := hI.count
  have f1 := hI.free (a / 64)
  have f2 := hI.free 1024
  have HI := Lib.hid (hI.add a (by omega))
  clear hI
  go_enter Tryd.func29, Tryd.ntmps29
  go_wp2
  go_region
  all_goals go_wp2
  all_goals go_end0
  all_goals
    rw [wd_or]
    exact ⟨rfl, HI.out, grownBy_drew (grownBy_trans (grownBy_set w _ _ _) (grownBy_set _ _ _ _))⟩
end Go.Proofs.YtmkgppbnhkihjaaDoor
