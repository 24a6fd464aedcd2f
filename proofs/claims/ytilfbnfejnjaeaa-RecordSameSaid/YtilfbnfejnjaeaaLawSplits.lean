/- The walk of the statement RecordSplits. -/
import Derived.Test.YtilfbnfejnjaeaaRsplit2
import Derived.Test.YtilfbnfejnjaeaaSame3
namespace Go.Proofs.Ytilfbnfejnjaeaa
open Go.RowKit Go.Shelf

/-- The bytes of the first k records. -/
def flatTo (R : List (Int × List UInt8)) (k : Nat) : List UInt8 := (R.take k).flatMap (·.2)
theorem flatTo_succ (R : List (Int × List UInt8)) (k : Nat) (hk : k < R.length) : flatTo R (k + 1) = flatTo R k ++ R[k].2 := by
  unfold flatTo
  rw [List.take_succ_eq_append_getElem hk, List.flatMap_append, List.flatMap_singleton]
theorem parts_flat (l : List UInt8) (sz : Nat) (a : Int) : ∀ j, (recsTo a sz l j).flatMap (·.2) = l.take (j * sz)
  | 0 => by simp [recsTo]
  | j + 1 => by
    rw [recsTo_succ, List.flatMap_append, parts_flat l sz a j, Nat.succ_mul, List.take_add]
    simp

theorem splits_long (a sz : Int) (A : Option Addr) (n c : Nat) (w : World) (h : 2000 < (n : Int)) :
    Calls Try.prog 7 #[.int .i64 a, .int .i64 sz, .slice A n c] w fun e w' => e = .returned (.bool true) ∧ Below w.heap.size w w' := by
  have C : Hid (∀ W : World, Calls Try.prog 13 #[] W fun e w' => e = .returned (.bool true) ∧ Below W.heap.size W w') := fun W => alive3_any W
  go_enter Try.func7, Try.ntmps7
  go_wp2_with (go_at_call 13; refine (C.out _).mono ?_; rintro e w1 ⟨rfl, hb⟩)
  go_ret
  exact ⟨rfl, hb⟩

theorem splitR_facts (a sz : Int) (l : List UInt8) : ((splitR a sz l).length = 0 ∨ flatTo (splitR a sz l) (splitR a sz l).length = l) ∧ (splitR a sz l).length ≤ l.length ∧ ∀ r ∈ splitR a sz l, r.2.length ≤ l.length := by
  unfold splitR
  split
  · rename_i hs
    simp only [splitOk, decide_eq_true_eq] at hs
    have h1 : 1 ≤ sz.toNat := by omega
    have hlen : (recsOf a sz.toNat l).length = nparts l.length sz.toNat := by simp [recsOf]
    have hle : l.length ≤ nparts l.length sz.toNat * sz.toNat := by
      have := mt (nparts_lt (len := l.length) (k := nparts l.length sz.toNat) h1).2 (Nat.lt_irrefl _)
      omega
    refine ⟨.inr ?_, ?_, ?_⟩
    · unfold flatTo
      rw [List.take_length]
      show (recsTo a sz.toNat l _).flatMap _ = _
      rw [parts_flat, List.take_of_length_le hle]
    · rw [hlen]
      by_cases h0 : nparts l.length sz.toNat = 0
      · omega
      · have := (nparts_lt (len := l.length) (k := nparts l.length sz.toNat - 1) h1).1 (by omega)
        have h3 : nparts l.length sz.toNat - 1 ≤ (nparts l.length sz.toNat - 1) * sz.toNat := Nat.le_mul_of_pos_right _ h1
        omega
    · intro r hr
      simp only [recsOf, List.mem_map] at hr
      obtain ⟨k, _, rfl⟩ := hr
      simp
      omega
  · simp
end Go.Proofs.Ytilfbnfejnjaeaa
