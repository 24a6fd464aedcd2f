/- The walk of Bytes of the reference of the package num. -/
import Derived.Test.YtilfbnfejnjaeaaBytes
namespace Go.Proofs.Ytilfbnfejnjaeaa
open Go.RowKit

theorem map_at {s : ByteArray} {k : Nat} (h : k < s.size) : ∃ c : UInt8, s[k] = c ∧ (s.data.toList.map upc)[k]? = some (upc c) := by
  obtain ⟨c, h1, h2⟩ := str_at s h
  exact ⟨c, h1, by rw [List.getElem?_map, h2]; rfl⟩
theorem own_snoc {w2 : World} {B : Nat} {v : Value} {d : List UInt8} {k : Nat} {y : UInt8} {z : Int} (h : w2.ownsRow B 5 1 v (k + 1) (bs d ++ [.int .u8 z])) (hz : z = (y.toNat : Int)) : w2.ownsRow B 5 1 v (k + 1) (bs (d ++ [y])) := by
  rw [bs_append, ← show [Value.int .u8 z] = bs [y] from by rw [hz]; rfl]
  exact h
set_option maxHeartbeats 400000 in
theorem rbytes_odd (s : ByteArray) (w : World) (h : s.size % 2 = 1) :
    Calls Try.prog 45 #[.string s] w (BytesR w (pairs (s.data.toList.map upc))) := by
  have hp : pairs (s.data.toList.map upc) = none := pairs_odd (s.size / 2) _ (by rw [List.length_map, str_len]; omega)
  rw [hp]
  have d1 : ((s.size : Int) % 2 != 0) = true := by simp; omega
  clear hp
  go_enter Try.func45, Try.ntmps45
  go_wp2
  go_ret2
  exact ⟨Below.refl _ _, rfl⟩
set_option maxHeartbeats 1000000 in
theorem rbytes_even (s : ByteArray) (w : World) (hs : (s.size : Int) ≤ 140737488355328) (h : s.size % 2 = 0) :
    Calls Try.prog 45 #[.string s] w (BytesR w (pairs (s.data.toList.map upc))) := by
  have HS := Lib.hid (str_len s)
  have HM : Hid (∀ k (h : k < s.size), ∃ c : UInt8, s[k] = c ∧ (s.data.toList.map upc)[k]? = some (upc c)) := fun k h => map_at h
  obtain ⟨l, hl⟩ : ∃ l, s.data.toList.map upc = l := ⟨_, rfl⟩
  rw [hl]
  rw [hl] at HM
  have HL : Hid (l.length = s.size) := by rw [← hl, Hid, List.length_map]; exact HS.out
  have d1 : ((s.size : Int) % 2 != 0) = false := by simp; omega
  have HN : Hid (s.size % 2 = 0) := h
  clear hl h
  go_enter Try.func45, Try.ntmps45
  go_wp2
  go_loopw [4, 5] (fun u v W => ∃ (i k : Nat) (d : List UInt8), (i : Int) ≤ s.size ∧ v = .int .i64 i ∧ Hid (i = 2 * k) ∧ Hid (pairs (l.take i) = some d ∧ d.length = k) ∧ Hid (W.ownsRow w.heap.size 5 1 u k (bs d)) ∧ Hid (Below w.heap.size w W)) (fun _ v _ => s.size - (intOf v).toNat)
  case atStart => exact ⟨0, 0, [], by omega, rfl, rfl, ⟨rfl, rfl⟩, World.ownsRow_nil _ _ _ _, Below.refl _ _⟩
  case round =>
    obtain ⟨i, k, d, hi, rfl, hik, hP, hO, hQ⟩ := hrel
    obtain ⟨A5, c5, rfl, hc5, _⟩ := own_form hO.out
    by_cases hlt : i < s.size
    · have h2 : i + 1 < s.size := by have := hik.out; have := HN.out; omega
      have hkb : (k : Int) ≤ 70368744177664 := by have := hik.out; omega
      obtain ⟨a, ha1, ha⟩ := HM.out i (by omega)
      obtain ⟨b, hb1, hb⟩ := HM.out (i + 1) h2
      have HA := Lib.hid ha
      have HBb := Lib.hid hb
      clear ha hb
      have C1 := Lib.hid (rdigit_any a wr)
      have C2 := Lib.hid (rdigit_any b wr)
      have h99 := hv_lt (upc a)
      have h98 := hv_lt (upc b)
      obtain ⟨x, hx⟩ : ∃ x, hv (upc a) = x := ⟨_, rfl⟩
      obtain ⟨y, hy⟩ : ∃ y, hv (upc b) = y := ⟨_, rfl⟩
      rw [hx] at C1 h99
      rw [hy] at C2 h98
      have HX := Lib.hid hx
      have HY := Lib.hid hy
      clear hx hy
      by_cases hxx : (x : Int) ≤ 15
      · by_cases hyy : (y : Int) ≤ 15
        · go_wp2_with (first
            | (go_at_call 73; refine C1.out.mono ?_; rintro e w' ⟨rfl, rfl⟩; clear C1)
            | (go_at_call 73; refine C2.out.mono ?_; rintro e w' ⟨rfl, rfl⟩)
            | (at_builtin; refine wpList_app el_bytes rfl (.tmp 33) (.tmp 39) rfl w.heap.size _ k _ (fun _ => True) _ 1 1 [.int .u8 _] rfl rfl (hO.out.alloc _) rfl (Rd.new _ _ _ trivial) (by intro u hu; simp at hu; subst hu; rfl) (by simp only [maxLen]; omega) (by omega) (by simp; have := hQ.out.size; omega) ?_; intro v2 w2 hown2 hg2 hat2 hz2; have HO := Lib.hid hown2; have HB := Lib.hid ((hQ.out.alloc hQ.out.size _).grown hg2 (by simp; have := hQ.out.size; omega) (fun q hq => (hO.out.lt q hq).1)); clear hown2 hg2 hat2 hz2))
          go_roundw
          case rel => exact ⟨i + 2, k + 1, d ++ [UInt8.ofNat (x * 16 + y)], by omega, by go_num, by have := hik.out; show i + 2 = 2 * (k + 1); omega, ⟨pairs_step hik.out hP.out.1 HA.out HBb.out ⟨by rw [HX.out]; omega, by rw [HY.out]; omega⟩ (by rw [HX.out, HY.out]), by rw [List.length_append, hP.out.2]; rfl⟩, own_snoc HO.out (by rw [UInt8.toNat_ofNat']; omega), HB.out⟩
          case measure => simp [intOf]; omega
        · have HF : Hid (pairs l = none) := pairs_fail hik.out hP.out.1 HA.out HBb.out (fun h => by have := h.2; rw [HY.out] at this; omega)
          go_wp2_with (first
            | (go_at_call 73; refine C1.out.mono ?_; rintro e w' ⟨rfl, rfl⟩; clear C1)
            | (go_at_call 73; refine C2.out.mono ?_; rintro e w' ⟨rfl, rfl⟩))
          go_ret2
          rw [HF.out]
          exact ⟨hQ.out, rfl⟩
      · have HF : Hid (pairs l = none) := pairs_fail hik.out hP.out.1 HA.out HBb.out (fun h => by have := h.1; rw [HX.out] at this; omega)
        go_wp2_with (first
          | (go_at_call 73; refine C1.out.mono ?_; rintro e w' ⟨rfl, rfl⟩; clear C1)
          | (go_at_call 73; refine C2.out.mono ?_; rintro e w' ⟨rfl, rfl⟩))
        go_ret2
        rw [HF.out]
        exact ⟨hQ.out, rfl⟩
    · have HE : Hid (pairs l = some d) := by
        have := hP.out.1
        rw [List.take_of_length_le (by have := HL.out; omega)] at this
        exact this
      go_wp2
      go_ret2
      rw [HE.out]
      exact ⟨hQ.out, _, rfl, by rw [hP.out.2]; exact hO.out⟩
theorem rbytes_any (s : ByteArray) (w : World) (hs : (s.size : Int) ≤ 140737488355328) :
    Calls Try.prog 45 #[.string s] w (BytesR w (pairs (s.data.toList.map upc))) := by
  rcases Nat.mod_two_eq_zero_or_one s.size with h | h
  · exact rbytes_even s w hs h
  · exact rbytes_odd s w h
end Go.Proofs.Ytilfbnfejnjaeaa
