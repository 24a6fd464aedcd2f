/- The walk of lower of the statements: every byte's small letter, of A to F. -/
import Derived.Test.YtilfbnfejnjaeaaUpper
namespace Go.Proofs.Ytilfbnfejnjaeaa
open Go.RowKit

/-- The small letter of A to F, else the byte itself. -/
def lowc (c : UInt8) : UInt8 := if 65 ≤ c.toNat ∧ c.toNat ≤ 70 then c + 32 else c
theorem lowc_yes {c : UInt8} (h0 : 65 ≤ (c.toNat : Int)) (h1 : (c.toNat : Int) ≤ 70) : ((lowc c).toNat : Int) = (c.toNat : Int) + 32 := by
  unfold lowc
  rw [if_pos ⟨by omega, by omega⟩, UInt8.toNat_add]
  simp; omega
theorem lowc_no {c : UInt8} (h : ¬ (65 ≤ (c.toNat : Int) ∧ (c.toNat : Int) ≤ 70)) : lowc c = c := by
  unfold lowc
  rw [if_neg (by omega)]
/-- The first k bytes of l are capital letters. -/
def loTo (l : List UInt8) (k : Nat) : List UInt8 := (l.take k).map lowc ++ l.drop k
theorem loTo_zero (l : List UInt8) : loTo l 0 = l := by simp [loTo]
theorem low_start {w : World} {g : Nat} {l : List UInt8} (h : Buf w g l) : Hid (Buf w g (loTo l 0)) := by
  rw [loTo_zero]
  exact h
theorem loTo_all (l : List UInt8) {k : Nat} (h : l.length ≤ k) : loTo l k = l.map lowc := by simp [loTo, List.take_of_length_le h, List.drop_eq_nil_of_le h]
theorem loTo_length (l : List UInt8) (k : Nat) : (loTo l k).length = l.length := by simp [loTo]; omega
theorem loTo_at (l : List UInt8) {k : Nat} (h : k < l.length) : (loTo l k)[k]'(by rw [loTo_length]; exact h) = l[k] := by
  have e : (loTo l k)[k]? = some l[k] := by
    unfold loTo
    rw [List.getElem?_append_right (by simp; omega)]
    simp [Nat.min_eq_left (Nat.le_of_lt h), h]
  exact (List.getElem_eq_iff _).2 e
theorem loTo_set (l : List UInt8) {k : Nat} (h : k < l.length) : (loTo l k).set k (lowc l[k]) = loTo l (k + 1) := by
  unfold loTo
  rw [List.set_append_right _ _ (by simp; omega), List.take_succ_eq_append_getElem h, List.map_append, List.drop_eq_getElem_cons h]
  have e : k - (List.map lowc (List.take k l)).length = 0 := by simp; omega
  rw [e, List.set_cons_zero]
  simp
theorem loTo_skip (l : List UInt8) {k : Nat} (h : k < l.length) (e : lowc l[k] = l[k]) : loTo l k = loTo l (k + 1) := by
  rw [← loTo_set l h, e]
  have := loTo_at l h
  rw [← this, List.set_getElem_self]

theorem Buf.lo {w : World} {g k : Nat} {l : List UInt8} (h : Buf w g (loTo l k)) (hk : k < l.length) : w.cell? ⟨g, k, none⟩ = some (.int .u8 (l[k].toNat : Int)) ∧ w.frozen? ⟨g, k, none⟩ = false := by
  have := h k (by rw [loTo_length]; exact hk)
  rw [loTo_at l hk] at this
  exact this
theorem Buf.putl {w : World} {g k : Nat} {l : List UInt8} (h : Buf w g (loTo l k)) (hk : k < l.length) {z : Int} (hz : ((lowc l[k]).toNat : Int) = z) : Buf (w.setCell ⟨g, k, none⟩ (.int .u8 z)) g (loTo l (k + 1)) := by
  rw [← hz, ← loTo_set l hk]
  exact h.set (by rw [loTo_length]; exact hk) _

set_option maxHeartbeats 400000 in
theorem lower_any (s : ByteArray) (w : World) (hs : s.size ≤ maxLen) :
    Calls Try.prog 23 #[.string s] w fun e w' => e = .returned (.string ⟨(s.data.toList.map lowc).toArray⟩) ∧ Below w.heap.size w w' := by
  unfold maxLen at hs
  obtain ⟨l, hl⟩ : ∃ l, s.data.toList = l := ⟨_, rfl⟩
  obtain ⟨n, hn⟩ : ∃ n, s.size = n := ⟨_, rfl⟩
  have HL : Hid (l.length = n) := by rw [Hid, ← hl, ← hn]; exact str_len s
  rw [hn] at hs
  have hsn : (n : Int) ≤ 9223372036854775807 := by omega
  have HT : Hid (s.data.toList = l) := hl
  have HN := Lib.hid hn
  rw [hl]
  clear hl hn hs
  go_enter Try.func23, Try.ntmps23
  go_wp2_with (refine wpList_toBytes rfl 9 23 5 Try.underlying9 Try.underlying23 Try.underlying5 (.tmp 6) rfl s rfl ?_; intro cap w1 hcap hb hB hlt; rw [HT.out] at hb; rw [HN.out] at hcap ⊢; have H1 := Lib.hid hb; have HB := Lib.hid hB; have HC := Lib.hid hcap; clear hb hB hcap hlt)
  go_loopw [10] (fun v W => ∃ k : Nat, k ≤ n ∧ v = .int .i64 k ∧ Hid (Buf W w.heap.size (loTo l k)) ∧ Hid (Below w.heap.size w W)) (fun v _ => n - (intOf v).toNat)
  case atStart => exact ⟨0, Nat.zero_le _, rfl, low_start H1.out, HB.out⟩
  case round =>
    obtain ⟨k, hk, rfl, hP, hQ⟩ := hrel
    by_cases hlt : k < n
    · have hkl : k < l.length := by rw [HL.out]; exact hlt
      have hc := (hP.out.lo hkl).1
      have hf := (hP.out.lo hkl).2
      by_cases hy : 65 ≤ (l[k].toNat : Int) ∧ (l[k].toNat : Int) ≤ 70
      · have HU := Lib.hid (lowc_yes hy.1 hy.2)
        obtain ⟨y, hyy⟩ : ∃ y : Int, (l[k].toNat : Int) = y := ⟨_, rfl⟩
        have HY := Lib.hid hyy
        rw [hyy] at hc hy
        obtain ⟨hy0, hy1⟩ := hy
        clear hyy
        go_wp2
        go_roundw
        case rel => exact ⟨k + 1, by omega, by go_num, hP.out.putl hkl (by rw [HU.out, HY.out]), hQ.out.setCell (p := ⟨w.heap.size, k, none⟩) (Nat.le_refl _) _⟩
        case measure => simp [intOf]; omega
      · have HU := Lib.hid (lowc_no hy)
        have hor : (l[k].toNat : Int) < 65 ∨ 70 < (l[k].toNat : Int) := by omega
        obtain ⟨y, hyy⟩ : ∃ y : Int, (l[k].toNat : Int) = y := ⟨_, rfl⟩
        rw [hyy] at hc hor
        clear hyy hy
        rcases hor with h1 | h1
        all_goals
          go_wp2
          go_roundw
          case rel => exact ⟨k + 1, by omega, by go_num, by rw [← loTo_skip l hkl HU.out]; exact hP.out, hQ.out⟩
          case measure => simp [intOf]; omega
    · have HE : Hid (Rd wr (fun q => q = w.heap.size) (some ⟨w.heap.size, 0, none⟩) (bs (l.map lowc))) := by
        have := hP.out.rd
        rw [loTo_all l (by have := HL.out; omega)] at this
        exact this
      go_wp2_with (refine wpList_ofBytes rfl 23 9 5 Try.underlying23 Try.underlying9 Try.underlying5 (.tmp 27) rfl _ cap (l.map lowc) n _ rfl (by rw [List.length_map]; exact HL.out.symm) HE.out ?_)
      go_ret
      exact ⟨rfl, hQ.out⟩
end Go.Proofs.Ytilfbnfejnjaeaa
