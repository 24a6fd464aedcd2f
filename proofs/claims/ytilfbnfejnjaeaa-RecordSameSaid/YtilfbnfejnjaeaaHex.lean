/- The walks of Hex of the package num and of its reference. -/
import Derived.Test.YtilfbnfejnjaeaaSmall
import Derived.OwnWalk
import Derived.Laws.Bits128
namespace Go.Proofs.Ytilfbnfejnjaeaa
open Go.RowKit

theorem i64_and15 (n : Int) : bits .and .i64 n 15 = n % 16 := by
  have h127 : (BitVec.ofInt 64 15).toNat = 2 ^ 4 - 1 := by decide
  have key : (BitVec.ofInt 64 n &&& BitVec.ofInt 64 15).toNat = (n % ((2 ^ 64 : Nat) : Int)).toNat % 2 ^ 4 := by
    rw [BitVec.toNat_and, BitVec.toNat_ofInt, h127, Nat.and_two_pow_sub_one_eq_mod]
  show IntKind.i64.wrap ((BitVec.ofInt 64 n &&& BitVec.ofInt 64 15).toNat : Nat) = n % 16
  rw [key, IntKind.wrap_i64]
  omega
/-- The capital hexadecimal digit of d. -/
def hd (d : Nat) : UInt8 := hexl.getD d 0
/-- The last k hexadecimal digits of n. -/
def hexS (n : Int) : Nat → List UInt8
  | 0 => []
  | k + 1 => hd ((n / (16 : Int) ^ k) % 16).toNat :: hexS n k
theorem hexS_length (n : Int) : ∀ k, (hexS n k).length = k
  | 0 => rfl
  | k + 1 => by rw [hexS, List.length_cons, hexS_length n k]
theorem hexb : ∀ d : Fin 16, ((⟨#[48, 49, 50, 51, 52, 53, 54, 55, 56, 57, 65, 66, 67, 68, 69, 70]⟩ : ByteArray)[d.val]'(by have := d.isLt; exact this)) = hd d.val := by decide +kernel
theorem hexx : ∀ d : Fin 16, (⟨#[48, 49, 50, 51, 52, 53, 54, 55, 56, 57, 65, 66, 67, 68, 69, 70]⟩ : ByteArray).extract d.val (d.val + 1) = ⟨#[hd d.val]⟩ := by decide +kernel
theorem pow_next (n : Int) (k : Nat) : n / (16 : Int) ^ k / 16 = n / (16 : Int) ^ (k + 1) := by
  rw [Int.ediv_ediv_of_nonneg (by exact Int.pow_nonneg (by decide)), Int.pow_succ]
theorem buf_own {w : World} {base g n c : Nat} {e : TypeId} {l : List UInt8} (h : w.ownsRow base e 1 (.slice (some ⟨g, 0, none⟩) n c) n (bs l)) : Buf w g l := fun k hk => by
  have hx : k < (bs l).length := by rw [bs_length]; exact hk
  obtain ⟨_, hr⟩ := h
  rcases hr with ⟨hv, _⟩ | ⟨g', cap, cur, hv, _, hb, _, _, _, ht⟩
  · cases hv
  · injection hv with hv _ _
    injection hv with hv
    injection hv with hv
    subst hv
    have hc : cur.toList[k]? = some ((bs l)[k]'hx) := by
      have h2 : (cur.toList.take (n * 1))[k]? = some ((bs l)[k]'hx) := by rw [ht]; exact List.getElem?_eq_getElem _
      rw [List.getElem?_take] at h2
      split at h2
      · exact h2
      · cases h2
    refine ⟨?_, by simp [World.frozen?, hb]⟩
    rw [← bs_get l k (by rw [bs_length]; exact hk)]
    unfold World.cell?
    simp only [hb]
    simpa using hc
theorem zero_cells (n : Nat) : (madeCells (Value.int .u8 0).cells (n * 1)).toList = bs (List.replicate n 0) := by
  simp [madeCells, bs, Value.cells]
  apply List.ext_getElem <;> simp
  intro i _
  rw [Nat.mod_one]
  rfl
/-- What the buffer holds once the last j of k digits are laid. -/
def hexB (n : Int) (k j : Nat) : List UInt8 := List.replicate (k - j) 0 ++ hexS n j
theorem hexB_length {n : Int} {k j : Nat} (h : j ≤ k) : (hexB n k j).length = k := by
  unfold hexB
  rw [List.length_append, List.length_replicate, hexS_length]
  omega
theorem hexB_zero (n : Int) (k : Nat) : hexB n k 0 = List.replicate k 0 := by simp [hexB, hexS]
theorem hex_i0 (k : Nat) : Hid ((k : Int) - 1 = (k : Int) - ((0 : Nat) : Int) - 1) := by show _ = _; omega
theorem hex_m0 (n : Int) : Hid (n = n / (16 : Int) ^ 0) := by show _ = _; simp
theorem hex_i1 {q k j : Nat} (h : (q : Int) = (k : Int) - (j : Int) - 1) : Hid ((q : Int) - 1 = (k : Int) - ((j + 1 : Nat) : Int) - 1) := by show _ = _; omega
theorem hex_m1 {n m : Int} {j : Nat} (h : m = n / (16 : Int) ^ j) : Hid (m / 16 = n / (16 : Int) ^ (j + 1)) := by show _ = _; rw [h, pow_next]
theorem hexB_all (n : Int) (k : Nat) : hexB n k k = hexS n k := by simp [hexB]
theorem hexB_set {n : Int} {k j : Nat} (h : j < k) : (hexB n k j).set (k - j - 1) (hd ((n / (16 : Int) ^ j) % 16).toNat) = hexB n k (j + 1) := by
  unfold hexB
  obtain ⟨m, hm⟩ : ∃ m, k - j = m + 1 := ⟨k - j - 1, by omega⟩
  rw [hm, show k - (j + 1) = m from by omega, Nat.add_sub_cancel, List.replicate_succ', List.append_assoc, List.set_append_right _ _ (by simp)]
  simp [hexS]
theorem Buf.hex {w : World} {g k j : Nat} {n : Int} (h : Buf w g (hexB n k j)) (hj : j < k) {y : UInt8} (hy : y = hd ((n / (16 : Int) ^ j) % 16).toNat) : Buf (w.setCell ⟨g, k - j - 1, none⟩ (.int .u8 (y.toNat : Int))) g (hexB n k (j + 1)) := by
  rw [← hexB_set hj, ← hy]
  exact h.set (by rw [hexB_length (by omega)]; omega) _

theorem hex_set {W : World} {g k j q d : Nat} {n m : Int} (h : Buf W g (hexB n k j)) (hj : j < k) (hq : (q : Int) = (k : Int) - (j : Int) - 1) (hm : m = n / (16 : Int) ^ j) (hd1 : m % 16 = (d : Int)) (y : UInt8) (hy : y = hd d) :
    Hid (Buf (W.setCell ⟨g, q, none⟩ (.int .u8 (y.toNat : Int))) g (hexB n k (j + 1))) := by
  obtain rfl : q = k - j - 1 := by omega
  refine h.hex hj ?_
  rw [hy, ← hm, hd1, Int.toNat_natCast]
theorem hex_below {w W : World} {g q : Nat} {v : Value} (h : Below w.heap.size w W) (hg : w.heap.size = g) : Hid (Below w.heap.size w (W.setCell ⟨g, q, none⟩ v)) := h.setCell (p := ⟨g, q, none⟩) (Nat.le_of_eq hg) _
set_option maxHeartbeats 1000000 in
set_option maxRecDepth 100000 in
theorem hex_any (n : Int) (k : Nat) (hk : (k : Int) ≤ 8) (w : World) :
    Calls Try.prog 25 #[.int .i64 n, .int .i64 (k : Int)] w fun e w' => e = .returned (.string ⟨(hexS n k).toArray⟩) ∧ Below w.heap.size w w' := by
  obtain ⟨i0, hi, hz0, hz1, hz2⟩ := info_parts el_bytes.info
  have hmax : max (k : Int) 0 = (k : Int) := by omega
  go_enter Try.func25, Try.ntmps25
  go_wp2_with (at_make; go_must (refine wpList_make_full _ rfl (.tmp 8) (.tmp 8) 23 rfl w.heap.size 5 i0 (.int .u8 0) 1 Try.underlying23 hi hz0 hz1 .i64 .i64 _ _ k rfl rfl (by omega) (by omega) (by rw [hz2]; omega) (by unfold maxLen; omega) (Nat.le_refl _) ?_; intro w1 ho hg; rw [zero_cells] at ho; have HO := Lib.hid (buf_own ho); have HG : Hid (Below w.heap.size w w1) := (Below.refl _ _).grown hg (Nat.le_refl _) (fun q hq => by cases hq); clear ho hg))
  clear hi hz0 hz1 hz2 hmax
  obtain ⟨g, hg⟩ : ∃ g, w.heap.size = g := ⟨_, rfl⟩
  rw [hg] at HO
  simp only [hg]
  have HW := Lib.hid hg
  clear hg
  go_loopw [0, 6] (fun u v W => ∃ (j : Nat) (i m : Int), j ≤ k ∧ -1 ≤ i ∧ i ≤ 7 ∧ v = .int .i64 i ∧ u = .int .i64 m ∧ Hid (i = (k : Int) - (j : Int) - 1) ∧ Hid (m = n / (16 : Int) ^ j) ∧ Hid (Buf W g (hexB n k j)) ∧ Hid (Below w.heap.size w W)) (fun _ v _ => (intOf v + 1).toNat)
  case atStart => exact ⟨0, (k : Int) - 1, n, Nat.zero_le _, by omega, by omega, rfl, rfl, hex_i0 k, hex_m0 n, by rw [hexB_zero]; exact HO.out, HG.out⟩
  case round =>
    obtain ⟨j, i, m, hj, hi1, hi2, rfl, rfl, hij, hm, hB, hQ⟩ := hrel
    by_cases h0 : 0 ≤ i
    · obtain ⟨q, rfl⟩ := Int.eq_ofNat_of_zero_le h0
      have hjk : j < k := by have := hij.out; omega
      have hq : q < (hexB n k j).length := by rw [hexB_length (by omega)]; have := hij.out; omega
      obtain ⟨hc, hf⟩ := hB.out q hq
      obtain ⟨y0, hy0⟩ : ∃ y0 : Int, ((hexB n k j)[q].toNat : Int) = y0 := ⟨_, rfl⟩
      rw [hy0] at hc
      obtain ⟨d, hd1⟩ : ∃ d : Nat, m % 16 = (d : Int) := ⟨(m % 16).toNat, by omega⟩
      have hd2 : (d : Int) < 16 := by omega
      have hand : bits .and .i64 m 15 = (d : Int) := by rw [i64_and15, hd1]
      have hqk : q < k := by have := hij.out; omega
      have HD := Lib.hid hd1
      have HJ := Lib.hid hjk
      clear hy0 hd1 hjk hq
      go_wp2
      go_roundw
      case rel => exact ⟨j + 1, (q : Int) - 1, m / 16, HJ.out, by omega, by omega, rfl, rfl, hex_i1 hij.out, hex_m1 hm.out, hex_set hB.out HJ.out hij.out hm.out HD.out _ (hexb ⟨d, by omega⟩), hex_below hQ.out HW.out⟩
      case measure => simp [intOf] <;> omega
    · have hjk : j = k := by have := hij.out; omega
      have HE : Hid (Rd wr (fun q => q = g) (some ⟨g, 0, none⟩) (bs (hexS n k))) := by
        have := hB.out.rd
        rw [hjk, hexB_all] at this
        exact this
      clear hjk
      go_wp2_with (refine wpList_ofBytes rfl 23 9 5 Try.underlying23 Try.underlying9 Try.underlying5 (.tmp 25) rfl _ k (hexS n k) k _ rfl (hexS_length n k).symm HE.out ?_)
      go_ret
      exact ⟨rfl, hQ.out⟩

theorem hex_cat {t : ByteArray} {n m : Int} {j d : Nat} (h : t.data.toList = hexS n j) (hm : m = n / (16 : Int) ^ j) (hd1 : m % 16 = (d : Int)) (hd2 : (d : Int) < 16) :
    Hid (((⟨#[48, 49, 50, 51, 52, 53, 54, 55, 56, 57, 65, 66, 67, 68, 69, 70]⟩ : ByteArray).extract d (d + 1) ++ t).data.toList = hexS n (j + 1)) := by
  have e := hexx ⟨d, by omega⟩
  show _ = _
  rw [show (⟨#[48, 49, 50, 51, 52, 53, 54, 55, 56, 57, 65, 66, 67, 68, 69, 70]⟩ : ByteArray).extract d (d + 1) = ⟨#[hd d]⟩ from e, hexS, ← hm, hd1, Int.toNat_natCast, ← h]
  simp
theorem str_of {t : ByteArray} {l : List UInt8} (h : t.data.toList = l) : t = ⟨l.toArray⟩ := by
  subst h
  rfl
set_option maxHeartbeats 1000000 in
set_option maxRecDepth 100000 in
theorem rhex_any (n : Int) (k : Nat) (hk : (k : Int) ≤ 8) (w : World) :
    Calls Try.prog 54 #[.int .i64 n, .int .i64 (k : Int)] w fun e w' => e = .returned (.string ⟨(hexS n k).toArray⟩) ∧ w = w' := by
  go_enter Try.func54, Try.ntmps54
  go_wp2
  go_loop [0, 5, 6] (fun u s v => ∃ (j : Nat) (m : Int) (t : ByteArray), j ≤ k ∧ v = .int .i64 j ∧ u = .int .i64 m ∧ s = .string t ∧ Hid (m = n / (16 : Int) ^ j) ∧ Hid (t.data.toList = hexS n j)) (fun _ _ v => k - (intOf v).toNat)
  case atStart => exact ⟨0, n, _, Nat.zero_le _, rfl, rfl, rfl, hex_m0 n, rfl⟩
  case round =>
    obtain ⟨j, m, t, hj, rfl, rfl, rfl, hm, ht⟩ := hrel
    by_cases hlt : j < k
    · obtain ⟨d, hd1⟩ : ∃ d : Nat, m % 16 = (d : Int) := ⟨(m % 16).toNat, by omega⟩
      have hd2 : (d : Int) < 16 := by omega
      have hand : bits .and .i64 m 15 = (d : Int) := by rw [i64_and15, hd1]
      have HD := Lib.hid hd1
      have hts : t.size ≤ 8 := by
        have h1 := str_len t
        rw [ht.out, hexS_length] at h1
        omega
      clear hd1
      go_wp2
      go_round
      case rel => exact ⟨j + 1, m / 16, _, by omega, by go_num, rfl, rfl, hex_m1 hm.out, hex_cat ht.out hm.out HD.out hd2⟩
      case measure => simp [intOf]; omega
    · obtain rfl : j = k := by omega
      have HT := Lib.hid (str_of ht.out)
      go_wp2
      go_ret
      exact ⟨by rw [← HT.out]; rfl, rfl⟩
end Go.Proofs.Ytilfbnfejnjaeaa
