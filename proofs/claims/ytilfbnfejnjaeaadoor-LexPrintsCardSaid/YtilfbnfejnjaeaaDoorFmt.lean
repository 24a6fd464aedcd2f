/- The walk of strconv.FormatInt at base 16. -/
import Derived.Test.YtilfbnfejnjaeaaDoorTz
namespace Go.Proofs.YtilfbnfejnjaeaaDoor
open Go.RowKit

def lowl : List UInt8 := [48, 49, 50, 51, 52, 53, 54, 55, 56, 57, 97, 98, 99, 100, 101, 102]
/-- The small hexadecimal digit of d. -/
def ld (d : Nat) : UInt8 := lowl.getD d 0
/-- The hexadecimal digits of n, small ones, none ahead that is zero. -/
def hexL (n : Nat) : List UInt8 := if n < 16 then [ld n] else hexL (n / 16) ++ [ld (n % 16)]
theorem hexL_small {n : Nat} (h : n < 16) : hexL n = [ld n] := by rw [hexL, if_pos h]
theorem hexL_big {n : Nat} (h : ¬ n < 16) : hexL n = hexL (n / 16) ++ [ld (n % 16)] := by rw [hexL, if_neg h]
theorem ldb : ∀ d : Fin 16, ((⟨#[48, 49, 50, 51, 52, 53, 54, 55, 56, 57, 97, 98, 99, 100, 101, 102, 103, 104, 105, 106, 107, 108, 109, 110, 111, 112, 113, 114, 115, 116, 117, 118, 119, 120, 121, 122]⟩ : ByteArray)[d.val]'(by have := d.isLt; exact Nat.lt_of_lt_of_le this (by decide))) = ld d.val := by decide +kernel
theorem u64_and15 (m : Nat) (h : (m : Int) ≤ 65535) : bits .and .u64 (m : Int) 15 = ((m % 16 : Nat) : Int) := by
  have h127 : (BitVec.ofInt 64 15).toNat = 2 ^ 4 - 1 := by decide
  have key : (BitVec.ofInt 64 (m : Int) &&& BitVec.ofInt 64 15).toNat = ((m : Int) % ((2 ^ 64 : Nat) : Int)).toNat % 2 ^ 4 := by
    rw [BitVec.toNat_and, BitVec.toNat_ofInt, h127, Nat.and_two_pow_sub_one_eq_mod]
  show IntKind.u64.wrap ((BitVec.ofInt 64 (m : Int) &&& BitVec.ofInt 64 15).toNat : Nat) = _
  rw [key, IntKind.wrap_u64]
  omega
theorem zeros_buf (w : World) : Buf (w.alloc (.cells Tryd.zeroCells111 111)) w.heap.size (List.replicate 65 0) := fun k hk => by
  have hz : Tryd.zeroCells111 = (List.replicate 65 (Value.int .u8 0)).toArray := by kernel_rfl
  have hk2 : k < 65 := by simpa using hk
  constructor
  · rw [List.getElem_replicate]
    unfold World.cell?
    simp only [heap_alloc_new, hz]
    show (List.replicate 65 (Value.int .u8 0)).toArray[k]? = _
    rw [List.getElem?_toArray, List.getElem?_replicate, if_pos hk2]
    rfl
  · unfold World.frozen?
    simp only [heap_alloc_new]
    simp
theorem fmt_next {L : List UInt8} {n m q i d : Nat} {y : UInt8} (hL : L.length = 65) (h : hexL n = hexL m ++ L.drop i) (hm : ¬ m < 16) (hq : q + 1 = i) (hi : i ≤ 65) (hd : m % 16 = d) (hy : y = ld d) : Hid (hexL n = hexL (m / 16) ++ (L.set q y).drop q) := by
  show _ = _
  subst hq
  rw [h, hexL_big hm, hd, List.append_assoc]
  have hq : q < (L.set q y).length := by simp; omega
  rw [List.drop_eq_getElem_cons hq, List.getElem_set_self, List.drop_set_of_lt (by omega), hy]
  rfl
theorem fmt_last {L : List UInt8} {n m q i : Nat} {y : UInt8} (hL : L.length = 65) (h : hexL n = hexL m ++ L.drop i) (hm : m < 16) (hq : q + 1 = i) (hi : i ≤ 65) (hy : y = ld m) : (L.set q y).drop q = hexL n := by
  subst hq
  rw [h, hexL_small hm]
  have hq : q < (L.set q y).length := by simp; omega
  rw [List.drop_eq_getElem_cons hq, List.getElem_set_self, List.drop_set_of_lt (by omega), hy]
  rfl
theorem Buf.tail {w : World} {g : Nat} {l : List UInt8} (h : Buf w g l) (q : Nat) : Rd w (fun x => x = g) (some ⟨g, q, none⟩) (bs (l.drop q)) := by
  have := h.rd.drop q
  rw [show (bs l).drop q = bs (l.drop q) from by simp [bs]] at this
  simpa [Addr.add_lit] using this
theorem slice111 (g q r : Nat) (w : World) (hr : q + r = 65) (hq : q < 65) : (Instr.sliceAt 111 (.pointer (some ⟨g, 0, none⟩)) (some (.int .i64 (q : Int))) none none).run Tryd.prog w = .ok (.slice (some ⟨g, q, none⟩) r r) w := by
  have e1 : 65 - q = r := by omega
  have e3 : ¬ 65 = q := by omega
  have hs : ∀ w, (sizeOf 5).run Tryd.prog w = .ok 1 w := fun w => by kernel_rfl
  have hadd : (⟨g, 0, none⟩ : Addr).add q = ⟨g, q, none⟩ := by rw [Addr.add_lit, Nat.zero_add]
  have b1 : ∀ y (code : BoundsCode), q ≤ y → (Instr.sliceBound (.int .i64 (q : Int)) y code).run Tryd.prog w = .ok q w := fun y code hy => by
    have c1 : (0 : Int) ≤ (q : Int) ∧ (q : Int) ≤ (y : Int) := ⟨by omega, by omega⟩
    simp only [Instr.sliceBound, asIntOf, Sem.run_bind, Sem.run_pure, Result.andThen_ok, if_pos c1, Int.toNat_natCast]
  have hb : (Instr.sliceBounds false 65 65 (some (.int .i64 (q : Int))) none none).run Tryd.prog w = .ok (q, 65, 65) w := by
    simp [Instr.sliceBounds, b1 _ _ (show q ≤ 65 by omega)]
  simp only [Instr.sliceAt, run_underlying Tryd.underlying111, Sem.run_bind, Result.andThen_ok, Instr.sureAddr, Sem.run_pure, hb, hs, Nat.mul_one, hadd, if_neg e3, e1]
set_option maxHeartbeats 2000000 in
set_option maxRecDepth 100000 in
theorem fbits_any (n : Nat) (w : World) (hn : (n : Int) ≤ 65535) (h : T16 w) :
    Calls Tryd.prog 75 #[.slice none 0 0, .int .u64 (n : Int), .int .i64 16, .bool false, .bool false] w fun e w' => e = .returned (.tuple #[.slice none 0 0, .string ⟨(hexL n).toArray⟩]) ∧ Below w.heap.size w w' := by
  have CT : Hid (∀ W : World, Below w.heap.size w W → Calls Tryd.prog 95 #[.int .u64 16] W fun e w' => e = .returned (.int .i64 4) ∧ W = w') := fun W hb => tz_any W (h.after hb (Nat.le_refl _))
  have CW : Hid (∀ W : World, Calls Tryd.prog 94 #[.int .i64 16] W fun e w' => e = .returned (.bool true) ∧ W = w') := fun W => pow_any W
  clear h
  have HB0 := Lib.hid (zeros_buf w)
  have HA : Hid (Below w.heap.size w (w.alloc (.cells Tryd.zeroCells111 111))) := (Below.refl _ _).alloc (Nat.le_refl _) _
  obtain ⟨w0, hw0⟩ : ∃ w0, w.alloc (.cells Tryd.zeroCells111 111) = w0 := ⟨_, rfl⟩
  have HW0 := Lib.hid hw0
  rw [hw0] at HB0
  rw [hw0] at HA
  clear hw0
  go_enter Tryd.func75, Tryd.ntmps75
  go_wp2_with (first
    | (go_at_call 94; refine (CW.out _).mono ?_; rintro e w1 ⟨rfl, rfl⟩)
    | (go_at_call 95; rw [HW0.out]; refine (CT.out _ HA.out).mono ?_; rintro e w1 ⟨rfl, rfl⟩))
  go_loopw [1, 13] (fun u v W => ∃ (m i : Nat) (L : List UInt8), u = .int .u64 (m : Int) ∧ v = .int .i64 (i : Int) ∧ (m : Int) ≤ 65535 ∧ 62 ≤ (i : Int) ∧ (i : Int) ≤ 65 ∧ Hid ((i = 65 ∧ m ≤ 65535) ∨ (i = 64 ∧ m ≤ 4095) ∨ (i = 63 ∧ m ≤ 255) ∨ (i = 62 ∧ m ≤ 15)) ∧ Hid (L.length = 65) ∧ Hid (Buf W w.heap.size L) ∧ Hid (hexL n = hexL m ++ L.drop i) ∧ Hid (Below w.heap.size w W)) (fun _ v _ => (intOf v).toNat)
  case atStart => exact ⟨n, 65, _, rfl, rfl, hn, by omega, by omega, .inl ⟨rfl, by omega⟩, by show _ = _; exact List.length_replicate .., HB0.out, by show _ = _; rw [List.drop_of_length_le (by rw [List.length_replicate]; exact Nat.le_refl _), List.append_nil], HA.out⟩
  case round =>
    obtain ⟨m, i, L, rfl, rfl, hm, hi0, hi1, hI, hL, hB, hX, hQ⟩ := hrel
    obtain ⟨q, hq⟩ : ∃ q : Nat, (i : Int) - 1 = (q : Int) := ⟨i - 1, by omega⟩
    have hqL : q < L.length := by rw [hL.out]; omega
    obtain ⟨hc, hf⟩ := hB.out q hqL
    obtain ⟨y0, hy0⟩ : ∃ y0 : Int, (L[q].toNat : Int) = y0 := ⟨_, rfl⟩
    rw [hy0] at hc
    have hq65 : (q : Int) < 65 := by omega
    have HQI : Hid (q + 1 = i) := by show _ = _; omega
    clear hy0
    by_cases h16 : 16 ≤ (m : Int)
    · obtain ⟨d, hd1⟩ : ∃ d : Nat, m % 16 = d := ⟨_, rfl⟩
      have hd2 : (d : Int) < 16 := by omega
      have hand : bits .and .u64 (m : Int) 15 = (d : Int) := by rw [u64_and15 m hm, hd1]
      have HD := Lib.hid hd1
      have hI2 : 63 ≤ i := by have := hI.out; omega
      have HQ65 := Lib.hid hqL
      clear hd1
      go_wp2
      go_roundw
      case rel => exact ⟨m / 16, q, _, rfl, rfl, by omega, by omega, by omega, by show _ ∨ _; have := hI.out; omega, by show _ = _; rw [List.length_set]; exact hL.out, hB.out.set HQ65.out _, fmt_next hL.out hX.out (by omega) HQI.out (by omega) HD.out (ldb ⟨d, by omega⟩), hQ.out.setCell (p := ⟨w.heap.size, q, none⟩) (Nat.le_refl _) _⟩
      case measure => simp [intOf]; omega
    · obtain ⟨r, hr⟩ : ∃ r, q + r = 65 := ⟨65 - q, by omega⟩
      have hsl := fun W => slice111 w.heap.size q r W hr (by omega)
      have hidx := ldb ⟨m, by omega⟩
      obtain ⟨y, hy⟩ : ∃ y : UInt8, y = ld m := ⟨_, rfl⟩
      have HFIN : Hid (Rd (wr.setCell ⟨w.heap.size, q, none⟩ (.int .u8 (y.toNat : Int))) (fun x => x = w.heap.size) (some ⟨w.heap.size, q, none⟩) (bs (hexL n))) := by
        have := (hB.out.set hqL y).tail q
        rw [fmt_last hL.out hX.out (by omega) HQI.out (by omega) hy] at this
        exact this
      have HLEN : Hid (r = (hexL n).length) := by
        show _ = _
        rw [← fmt_last (y := y) hL.out hX.out (by omega) HQI.out (by omega) hy, List.length_drop, List.length_set, hL.out]
        omega
      have hix : (⟨#[48, 49, 50, 51, 52, 53, 54, 55, 56, 57, 97, 98, 99, 100, 101, 102, 103, 104, 105, 106, 107, 108, 109, 110, 111, 112, 113, 114, 115, 116, 117, 118, 119, 120, 121, 122]⟩ : ByteArray)[m]'(Nat.lt_of_lt_of_le (show m < 16 by omega) (by decide)) = y := by rw [hy]; exact hidx
      have HR65 := Lib.hid hr
      clear hr hy hidx
      go_wp2_with (refine wpList_ofBytes rfl 30 9 5 Tryd.underlying30 Tryd.underlying9 Tryd.underlying5 (.tmp 100) rfl _ r (hexL n) r _ rfl HLEN.out HFIN.out ?_)
      go_ret2
      exact ⟨rfl, hQ.out.setCell (p := ⟨w.heap.size, q, none⟩) (Nat.le_refl _) _⟩
end Go.Proofs.YtilfbnfejnjaeaaDoor
