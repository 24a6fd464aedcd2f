/- The walks of Sum of the package record and of its reference. -/
import Derived.Test.YtilfbnfejnjaeaaHex
namespace Go.Proofs.Ytilfbnfejnjaeaa
open Go.RowKit

/-- The sum of bytes. -/
def tsum (l : List UInt8) : Nat := (l.map (·.toNat)).sum
theorem tsum_nil : tsum [] = 0 := rfl
theorem tsum_append (l m : List UInt8) : tsum (l ++ m) = tsum l + tsum m := by simp [tsum]
theorem tsum_one (c : UInt8) : tsum [c] = c.toNat := by simp [tsum]
theorem tsum_at {l : List UInt8} {k : Nat} {c : UInt8} (h : l[k]? = some c) : tsum (l.take (k + 1)) = tsum (l.take k) + c.toNat := by
  rw [take_at h, tsum_append, tsum_one]
/-- The checksum. -/
def ck (l : List UInt8) : Nat := (256 - tsum l % 256) % 256
theorem ck_lt (l : List UInt8) : ck l < 256 := Nat.mod_lt _ (by decide)
theorem Rd.byteAt {w : World} {p : Nat → Prop} {A : Option Addr} {l : List UInt8} (h : Rd w p A (bs l)) {k : Nat} (hk : k < l.length) :
    ∃ b o c, A = some ⟨b, o, none⟩ ∧ p b ∧ w.cell? ⟨b, o + k, none⟩ = some (.int .u8 (c.toNat : Int)) ∧ l[k]? = some c := by
  obtain ⟨b, o, h1, h2, h3⟩ := h.byte hk
  exact ⟨b, o, l[k], h1, h2, h3, List.getElem?_eq_getElem hk⟩
theorem sum_next {l : List UInt8} {k s : Nat} {c : UInt8} (h : s = tsum (l.take k) % 256) (hc : l[k]? = some c) : Hid ((s + c.toNat) % 256 = tsum (l.take (k + 1)) % 256) := by
  show _ = _
  rw [tsum_at hc, h]
  omega
theorem ck_next {l : List UInt8} {k s : Nat} {c : UInt8} {z : Int} (h : s = ck (l.take k)) (hc : l[k]? = some c) (hz : z = ((s : Int) - (c.toNat : Int)) % 256) : z = ((ck (l.take (k + 1)) : Nat) : Int) := by
  rw [hz, h]
  unfold ck
  rw [tsum_at hc]
  have := c.toNat_lt
  omega
set_option maxHeartbeats 400000 in
theorem rsum_any (A : Option Addr) (l : List UInt8) (c : Nat) (w : World) (p : Nat → Prop) (hm : (l.length : Int) ≤ 140737488355328) (h : Rd w p A (bs l)) :
    Calls Try.prog 20 #[.slice A l.length c] w fun e w' => e = .returned (.int .u8 (ck l : Int)) ∧ w = w' := by
  have HR := Lib.hid h
  obtain ⟨n, hn⟩ : ∃ n, l.length = n := ⟨_, rfl⟩
  rw [hn] at hm
  rw [hn]
  have HN := Lib.hid hn
  clear h hn
  go_enter Try.func20, Try.ntmps20
  go_wp2
  go_loop [3, 4] (fun u v => ∃ k s : Nat, (k : Int) ≤ n ∧ (s : Int) ≤ 255 ∧ v = .int .i64 k ∧ u = .int .i64 s ∧ Hid (s = tsum (l.take k) % 256)) (fun _ v => n - (intOf v).toNat)
  case atStart => exact ⟨0, 0, by omega, by omega, rfl, rfl, rfl⟩
  case round =>
    obtain ⟨k, s, hk, hs, rfl, rfl, hS⟩ := hrel
    by_cases hlt : k < n
    · obtain ⟨b, o, c, rfl, _, hc, hz⟩ := HR.out.byteAt (k := k) (by rw [HN.out]; exact hlt)
      have HZ := Lib.hid hz
      have h255 := byte_le c
      clear hz
      go_wp2
      go_round
      case rel => exact ⟨k + 1, (s + c.toNat) % 256, by omega, by omega, by go_num, by go_num, sum_next hS.out HZ.out⟩
      case measure => simp [intOf]; omega
    · have HE : Hid (ck l = (256 - s) % 256) := by
        have := hS.out
        rw [List.take_of_length_le (by rw [HN.out]; omega)] at this
        show _ = _
        rw [ck, this]
      go_wp2
      go_ret
      exact ⟨ret_int (by rw [HE.out]; omega), rfl⟩
/-- The closure of Sum. -/
theorem sub_any (g : Nat) (s : Int) (c : UInt8) (W : World) (hc : W.cell? ⟨g, 0, none⟩ = some (.int .u8 s)) (hf : W.frozen? ⟨g, 0, none⟩ = false) :
    Calls Try.prog 46 #[.int .u8 (c.toNat : Int), .pointer (some ⟨g, 0, none⟩)] W fun e w' => e = .returned (.tuple #[]) ∧ W.setCell ⟨g, 0, none⟩ (.int .u8 ((s - (c.toNat : Int)) % 256)) = w' := by
  go_enter Try.func46, Try.ntmps46
  go_wp2
  go_end0
  exact ⟨rfl, rfl⟩
theorem ck_start (l : List UInt8) : Hid (0 = ck (l.take 0)) := by show _ = _; rw [List.take_zero]; rfl
set_option maxHeartbeats 400000 in
theorem sum_any (A : Option Addr) (l : List UInt8) (c : Nat) (w : World) (p : Nat → Prop) (hm : (l.length : Int) ≤ 140737488355328) (h : Rd w p A (bs l)) :
    Calls Try.prog 17 #[.slice A l.length c] w fun e w' => e = .returned (.int .u8 (ck l : Int)) ∧ Below w.heap.size w w' := by
  have HR := Lib.hid h
  obtain ⟨n, hn⟩ : ∃ n, l.length = n := ⟨_, rfl⟩
  rw [hn] at hm
  rw [hn]
  have HN := Lib.hid hn
  clear h hn
  obtain ⟨g, hg⟩ : ∃ g, w.heap.size = g := ⟨_, rfl⟩
  go_enter Try.func17, Try.ntmps17
  go_wp2
  go_loopw [10] (fun v W => ∃ k s : Nat, (k : Int) ≤ n ∧ (s : Int) ≤ 255 ∧ v = .int .i64 k ∧ Hid (W.heap[g]? = some (.cells #[.int .u8 s] 5 (0, 0))) ∧ Hid (s = ck (l.take k)) ∧ Hid (Below g w W)) (fun v _ => n - (intOf v).toNat)
  case atStart => exact ⟨0, 0, by omega, by omega, rfl, by subst hg; exact heap_alloc_new w _, ck_start l, by subst hg; exact (Below.refl _ _).alloc (Nat.le_refl _) _⟩
  case round =>
    obtain ⟨k, s, hk, hs, rfl, h1, hS, hQ⟩ := hrel
    have hc1 : wr.cell? ⟨g, 0, none⟩ = some (.int .u8 s) := by simp [World.cell?, h1.out]
    have hf1 : wr.frozen? ⟨g, 0, none⟩ = false := by simp [World.frozen?, h1.out]
    by_cases hlt : k < n
    · obtain ⟨b, o, c, rfl, _, hc0, hz⟩ := HR.out.byteAt (k := k) (by rw [HN.out]; exact hlt)
      have hc := (hQ.out.cell (p := ⟨b, o + k, none⟩) (by rw [← hg]; exact lt_of_cell hc0)).trans hc0
      have HZ := Lib.hid hz
      have h255 := byte_le c
      have C := Lib.hid (sub_any g s c wr hc1 hf1)
      obtain ⟨w5, hw5⟩ : ∃ w5, wr.setCell ⟨g, 0, none⟩ (.int .u8 (((s : Int) - (c.toNat : Int)) % 256)) = w5 := ⟨_, rfl⟩
      rw [hw5] at C
      have HW5 := Lib.hid hw5
      have HG := Lib.hid hg
      clear hz hc0 hw5
      go_wp2_with (go_at_call 46; refine C.out.mono ?_; rintro e w' ⟨rfl, rfl⟩)
      go_roundw
      case rel => exact ⟨k + 1, ck (l.take (k + 1)), by omega, by have := ck_lt (l.take (k + 1)); omega, by go_num, by rw [← HW5.out, ← ck_next hS.out HZ.out rfl]; exact one_set h1.out, rfl, by rw [← HW5.out]; exact hQ.out.setCell (p := ⟨g, 0, none⟩) (Nat.le_refl _) _⟩
      case measure => simp [intOf]; omega
    · have HE : Hid (ck l = s) := by
        have := hS.out
        rw [List.take_of_length_le (by rw [HN.out]; omega)] at this
        exact this.symm
      have HG := Lib.hid hg
      go_wp2
      go_ret
      exact ⟨ret_int (by rw [HE.out]), by rw [HG.out]; exact hQ.out⟩
end Go.Proofs.Ytilfbnfejnjaeaa
