/- The walks of Upper of the package num and of its reference: both give every byte's capital letter. -/
import Derived.Test.YtilfbnfejnjaeaaRows
import Derived.Test.YtilfbnfejnjaeaaStr
namespace Go.Proofs.Ytilfbnfejnjaeaa
open Go.RowKit

/-- The capital letter of a small one, else the byte itself. -/
def upc (c : UInt8) : UInt8 := if 97 ≤ c.toNat ∧ c.toNat ≤ 122 then c - 32 else c
theorem upc_yes {c : UInt8} (h0 : 97 ≤ (c.toNat : Int)) (h1 : (c.toNat : Int) ≤ 122) : ((upc c).toNat : Int) = (c.toNat : Int) - 97 + 65 := by
  unfold upc
  rw [if_pos ⟨by omega, by omega⟩, UInt8.toNat_sub_of_le _ _ (UInt8.le_iff_toNat_le.2 (by simp; omega))]
  simp; omega
theorem upc_no {c : UInt8} (h : ¬ (97 ≤ (c.toNat : Int) ∧ (c.toNat : Int) ≤ 122)) : upc c = c := by
  unfold upc
  rw [if_neg (by omega)]
/-- The first k bytes of l are capital letters. -/
def upTo (l : List UInt8) (k : Nat) : List UInt8 := (l.take k).map upc ++ l.drop k
theorem upTo_zero (l : List UInt8) : upTo l 0 = l := by simp [upTo]
theorem up_start {w : World} {g : Nat} {l : List UInt8} (h : Buf w g l) : Hid (Buf w g (upTo l 0)) := by
  rw [upTo_zero]
  exact h
theorem upTo_all (l : List UInt8) {k : Nat} (h : l.length ≤ k) : upTo l k = l.map upc := by simp [upTo, List.take_of_length_le h, List.drop_eq_nil_of_le h]
theorem upTo_length (l : List UInt8) (k : Nat) : (upTo l k).length = l.length := by simp [upTo]; omega
theorem upTo_at (l : List UInt8) {k : Nat} (h : k < l.length) : (upTo l k)[k]'(by rw [upTo_length]; exact h) = l[k] := by
  have e : (upTo l k)[k]? = some l[k] := by
    unfold upTo
    rw [List.getElem?_append_right (by simp; omega)]
    simp [Nat.min_eq_left (Nat.le_of_lt h), h]
  exact (List.getElem_eq_iff _).2 e
theorem upTo_set (l : List UInt8) {k : Nat} (h : k < l.length) : (upTo l k).set k (upc l[k]) = upTo l (k + 1) := by
  unfold upTo
  rw [List.set_append_right _ _ (by simp; omega), List.take_succ_eq_append_getElem h, List.map_append, List.drop_eq_getElem_cons h]
  have e : k - (List.map upc (List.take k l)).length = 0 := by simp; omega
  rw [e, List.set_cons_zero]
  simp
theorem upTo_skip (l : List UInt8) {k : Nat} (h : k < l.length) (e : upc l[k] = l[k]) : upTo l k = upTo l (k + 1) := by
  rw [← upTo_set l h, e]
  have := upTo_at l h
  rw [← this, List.set_getElem_self]

theorem Buf.up {w : World} {g k : Nat} {l : List UInt8} (h : Buf w g (upTo l k)) (hk : k < l.length) : w.cell? ⟨g, k, none⟩ = some (.int .u8 (l[k].toNat : Int)) ∧ w.frozen? ⟨g, k, none⟩ = false := by
  have := h k (by rw [upTo_length]; exact hk)
  rw [upTo_at l hk] at this
  exact this
theorem Buf.put {w : World} {g k : Nat} {l : List UInt8} (h : Buf w g (upTo l k)) (hk : k < l.length) {z : Int} (hz : ((upc l[k]).toNat : Int) = z) : Buf (w.setCell ⟨g, k, none⟩ (.int .u8 z)) g (upTo l (k + 1)) := by
  rw [← hz, ← upTo_set l hk]
  exact h.set (by rw [upTo_length]; exact hk) _

set_option maxHeartbeats 400000 in
theorem upper_any (s : ByteArray) (w : World) (hs : s.size ≤ maxLen) :
    Calls Try.prog 70 #[.string s] w fun e w' => e = .returned (.string ⟨(s.data.toList.map upc).toArray⟩) ∧ Below w.heap.size w w' := by
  unfold maxLen at hs
  obtain ⟨l, hl⟩ : ∃ l, s.data.toList = l := ⟨_, rfl⟩
  obtain ⟨n, hn⟩ : ∃ n, s.size = n := ⟨_, rfl⟩
  have HL : Hid (l.length = n) := by rw [Hid, ← hl, ← hn]; exact str_len s
  rw [hn] at hs
  have hsn : (n : Int) ≤ 9223372036854775807 := by omega
  have HT : Hid (s.data.toList = l) := hl
  have HN := Lib.hid hn
  rw [hl]
  clear hl hn hs
  go_enter Try.func70, Try.ntmps70
  go_wp2_with (refine wpList_toBytes rfl 9 23 5 Try.underlying9 Try.underlying23 Try.underlying5 (.tmp 6) rfl s rfl ?_; intro cap w1 hcap hb hB hlt; rw [HT.out] at hb; rw [HN.out] at hcap ⊢; have H1 := Lib.hid hb; have HB := Lib.hid hB; have HC := Lib.hid hcap; clear hb hB hcap hlt)
  go_loopw [10] (fun v W => ∃ k : Nat, k ≤ n ∧ v = .int .i64 k ∧ Hid (Buf W w.heap.size (upTo l k)) ∧ Hid (Below w.heap.size w W)) (fun v _ => n - (intOf v).toNat)
  case atStart => exact ⟨0, Nat.zero_le _, rfl, up_start H1.out, HB.out⟩
  case round =>
    obtain ⟨k, hk, rfl, hP, hQ⟩ := hrel
    by_cases hlt : k < n
    · have hkl : k < l.length := by rw [HL.out]; exact hlt
      have hc := (hP.out.up hkl).1
      have hf := (hP.out.up hkl).2
      by_cases hy : 97 ≤ (l[k].toNat : Int) ∧ (l[k].toNat : Int) ≤ 122
      · have HU := Lib.hid (upc_yes hy.1 hy.2)
        obtain ⟨y, hyy⟩ : ∃ y : Int, (l[k].toNat : Int) = y := ⟨_, rfl⟩
        have HY := Lib.hid hyy
        rw [hyy] at hc hy
        obtain ⟨hy0, hy1⟩ := hy
        clear hyy
        go_wp2
        go_roundw
        case rel => exact ⟨k + 1, by omega, by go_num, hP.out.put hkl (by rw [HU.out, HY.out]), hQ.out.setCell (p := ⟨w.heap.size, k, none⟩) (Nat.le_refl _) _⟩
        case measure => simp [intOf]; omega
      · have HU := Lib.hid (upc_no hy)
        have hor : (l[k].toNat : Int) < 97 ∨ 122 < (l[k].toNat : Int) := by omega
        obtain ⟨y, hyy⟩ : ∃ y : Int, (l[k].toNat : Int) = y := ⟨_, rfl⟩
        rw [hyy] at hc hor
        clear hyy hy
        rcases hor with h1 | h1
        all_goals
          go_wp2
          go_roundw
          case rel => exact ⟨k + 1, by omega, by go_num, by rw [← upTo_skip l hkl HU.out]; exact hP.out, hQ.out⟩
          case measure => simp [intOf]; omega
    · have HE : Hid (Rd wr (fun q => q = w.heap.size) (some ⟨w.heap.size, 0, none⟩) (bs (l.map upc))) := by
        have := hP.out.rd
        rw [upTo_all l (by have := HL.out; omega)] at this
        exact this
      go_wp2_with (refine wpList_ofBytes rfl 23 9 5 Try.underlying23 Try.underlying9 Try.underlying5 (.tmp 28) rfl _ cap (l.map upc) n _ rfl (by rw [List.length_map]; exact HL.out.symm) HE.out ?_)
      go_ret
      exact ⟨rfl, hQ.out⟩

theorem upc_sub {c : UInt8} (h0 : 97 ≤ (c.toNat : Int)) (h1 : (c.toNat : Int) ≤ 122) : ((upc c).toNat : Int) = (c.toNat : Int) - 32 := by
  have := upc_yes h0 h1
  omega
theorem up_take {l : List UInt8} {k : Nat} {c : UInt8} (h : l[k]? = some c) : (l.take (k + 1)).map upc = (l.take k).map upc ++ [upc c] := by
  rw [take_at h, List.map_append]
  rfl
theorem el_bytes : El Try.prog 23 5 (.int .u8 0) 1 1 := ⟨Try.underlying23, by kernel_rfl, rfl, by decide⟩
theorem up_step {w : World} {base k : Nat} {v : Value} {l : List UInt8} {z : Int} {c : UInt8} (hk : l[k]? = some c) (hz : ((upc c).toNat : Int) = z)
    (h : w.ownsRow base 5 1 v (k + 1) (bs ((l.take k).map upc) ++ [.int .u8 z])) : w.ownsRow base 5 1 v (k + 1) (bs ((l.take (k + 1)).map upc)) := by
  rw [up_take hk, bs_append]
  rw [← hz] at h
  exact h
set_option maxHeartbeats 400000 in
theorem rupper_any (s : ByteArray) (w : World) (hs : s.size ≤ 140737488355328) :
    Calls Try.prog 84 #[.string s] w fun e w' => e = .returned (.string ⟨(s.data.toList.map upc).toArray⟩) ∧ Below w.heap.size w w' := by
  go_enter Try.func84, Try.ntmps84
  go_wp2
  go_loopw [3, 4] (fun u v W => ∃ k : Nat, k ≤ s.size ∧ v = .int .i64 k ∧ Hid (W.ownsRow w.heap.size 5 1 u k (bs ((s.data.toList.take k).map upc))) ∧ Hid (Below w.heap.size w W)) (fun _ v _ => s.size - (intOf v).toNat)
  case atStart => exact ⟨0, Nat.zero_le _, rfl, World.ownsRow_nil _ _ _ _, Below.refl _ _⟩
  case round =>
    obtain ⟨k, hk, rfl, hP, hQ⟩ := hrel
    obtain ⟨A3, c3, rfl, _⟩ := own_form hP.out
    by_cases hlt : k < s.size
    · obtain ⟨c, hc, hlc⟩ := str_at s hlt
      have HLC := Lib.hid hlc
      clear hlc
      have h255 := byte_le c
      have hcase : (97 ≤ (c.toNat : Int) ∧ (c.toNat : Int) ≤ 122 ∧ ((upc c).toNat : Int) = (c.toNat : Int) - 32) ∨ ((c.toNat : Int) < 97 ∧ ((upc c).toNat : Int) = (c.toNat : Int)) ∨ (122 < (c.toNat : Int) ∧ ((upc c).toNat : Int) = (c.toNat : Int)) := by
        rcases Int.lt_or_le (c.toNat : Int) 97 with h | h
        · exact .inr (.inl ⟨h, by rw [upc_no (by omega)]⟩)
        · rcases Int.lt_or_le 122 (c.toNat : Int) with h2 | h2
          · exact .inr (.inr ⟨h2, by rw [upc_no (by omega)]⟩)
          · exact .inl ⟨h, h2, upc_sub h h2⟩
      rcases hcase with ⟨h1, h2, hu⟩ | ⟨h1, hu⟩ | ⟨h1, hu⟩
      all_goals
        have HU := Lib.hid hu
        clear hu
        go_wp2_with (at_builtin; refine wpList_app el_bytes rfl (.tmp 23) (.tmp 25) rfl w.heap.size _ k _ (fun _ => True) _ 1 1 [.int .u8 _] rfl rfl (hP.out.alloc _) rfl (Rd.new _ _ _ trivial) (by intro u hu; simp at hu; subst hu; rfl) (by simp only [maxLen]; omega) (by omega) (by simp; have := hQ.out.size; omega) ?_; intro v2 w2 hown2 hg2 hat2 hz2; have HO := Lib.hid hown2; have HB := Lib.hid ((hQ.out.alloc hQ.out.size _).grown hg2 (by simp; have := hQ.out.size; omega) (fun q hq => (hP.out.lt q hq).1)); clear hown2 hg2 hat2 hz2)
        go_roundw
        case rel => exact ⟨k + 1, by omega, by go_num, up_step HLC.out HU.out HO.out, HB.out⟩
        case measure => simp [intOf]; omega
    · obtain rfl : k = s.size := by omega
      have HE : Hid (Rd wr (fun _ => True) A3 (bs (s.data.toList.map upc))) := by
        have := Rd.of_own (p := fun _ => True) hP.out (fun _ _ _ => trivial)
        rw [List.take_of_length_le (by rw [str_len]; omega)] at this
        exact this
      go_wp2_with (refine wpList_ofBytes rfl 23 9 5 Try.underlying23 Try.underlying9 Try.underlying5 (.tmp 27) rfl _ c3 (s.data.toList.map upc) s.size _ rfl (by rw [List.length_map, str_len]) HE.out ?_)
      go_ret
      exact ⟨rfl, hQ.out⟩
end Go.Proofs.Ytilfbnfejnjaeaa
