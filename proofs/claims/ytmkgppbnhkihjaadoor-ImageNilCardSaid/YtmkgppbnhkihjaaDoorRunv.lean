/- A list of runs in memory: each with an address and a slice of bytes. Over any program. -/
import Derived.Test.YtmkgppbnhkihjaaDoorKit
import Derived.Test.YtmkgppbnhkihjaaDoorSeg
namespace Go.Proofs.YtmkgppbnhkihjaaDoor
open Go.RowKit

/-- The values xs are the runs R, whose bytes are read in blocks that meet p. -/
def RunVals (w : World) (p : Nat → Prop) (xs : List Value) (R : List (Int × List UInt8)) : Prop :=
  xs.length = R.length * 2 ∧ ∀ i (h : i < R.length), xs[i * 2]? = some (.int .i64 R[i].1) ∧ ∃ A c, xs[i * 2 + 1]? = some (.slice A R[i].2.length c) ∧ Rd w p A (bs R[i].2)
section
variable {w w' : World} {p q : Nat → Prop} {xs : List Value} {R : List (Int × List UInt8)}
theorem RunVals.nil (w : World) (p : Nat → Prop) : RunVals w p [] [] := ⟨rfl, fun i h => absurd h (Nat.not_lt_zero _)⟩
theorem RunVals.mono (h : RunVals w p xs R) (hpq : ∀ i, i < w.heap.size → p i → q i) : RunVals w q xs R :=
  ⟨h.1, fun i hi => let ⟨h1, A, c, h2, h3⟩ := h.2 i hi; ⟨h1, A, c, h2, h3.mono hpq⟩⟩
theorem RunVals.keep (h : RunVals w p xs R) (hk : ∀ i, i < w.heap.size → p i → w'.heap[i]? = w.heap[i]?) : RunVals w' p xs R :=
  ⟨h.1, fun i hi => let ⟨h1, A, c, h2, h3⟩ := h.2 i hi; ⟨h1, A, c, h2, h3.keep hk⟩⟩
theorem RunVals.move (h : RunVals w p xs R) (hk : ∀ i, i < w.heap.size → p i → q i ∧ w'.heap[i]? = w.heap[i]?) : RunVals w' q xs R :=
  ⟨h.1, fun i hi => let ⟨h1, A, c, h2, h3⟩ := h.2 i hi; ⟨h1, A, c, h2, h3.move hk⟩⟩
theorem RunVals.after (h : RunVals w p xs R) (hb : Below w.heap.size w w') : RunVals w' p xs R := h.keep fun i h1 _ => hb.block i h1
theorem RunVals.snoc (h : RunVals w p xs R) {a : Int} {d : List UInt8} {A : Option Addr} {c : Nat} (hr : Rd w p A (bs d)) : RunVals w p (xs ++ [.int .i64 a, .slice A d.length c]) (R ++ [(a, d)]) := by
  refine ⟨by simp [h.1]; omega, fun i hi => ?_⟩
  rw [List.length_append, List.length_singleton] at hi
  by_cases hlt : i < R.length
  · obtain ⟨h1, A', c', h2, h3⟩ := h.2 i hlt
    have e : (R ++ [(a, d)])[i] = R[i] := List.getElem_append_left hlt
    rw [List.getElem?_append_left (by rw [h.1]; omega), List.getElem?_append_left (by rw [h.1]; omega), e]
    exact ⟨h1, A', c', h2, h3⟩
  · obtain rfl : i = R.length := by omega
    have e : (R ++ [(a, d)])[R.length]'(by simp) = (a, d) := by simp
    rw [List.getElem?_append_right (by rw [h.1]; omega), List.getElem?_append_right (by rw [h.1]; omega), h.1, e]
    simp only [Nat.sub_self, Nat.add_sub_cancel_left, List.getElem?_cons_zero, List.getElem?_cons_succ, true_and]
    exact ⟨A, c, rfl, hr⟩
end
/-- One run more behind an append. -/
theorem run_push {base : Nat} {wr w1 w2 : World} {e : TypeId} {size n : Nat} {v v2 : Value} {o : Obj} {xs : List Value} {R : List (Int × List UInt8)} {a : Int} {d : List UInt8} {A1 : Option Addr} {c1 : Nat}
    (hown : wr.ownsRow base e size v n xs) (hrv : RunVals wr (fun q => base ≤ q ∧ some q ≠ v.ownBlock) xs R) (hb1 : Below wr.heap.size wr w1) (hd : Rd w1 (fun q => wr.heap.size ≤ q) A1 (bs d))
    (hg2 : (w1.alloc o).grownBy w2 v.ownBlock) (hat : v2.ownBlock = v.ownBlock ∨ v2.ownBlock = some (w1.alloc o).heap.size) (hbase : base ≤ wr.heap.size) :
    RunVals w2 (fun q => base ≤ q ∧ some q ≠ v2.ownBlock) (xs ++ [.int .i64 a, .slice A1 d.length c1]) (R ++ [(a, d)]) := by
  have hsz := hb1.size
  have key : ∀ i, i < w1.heap.size → some i ≠ v.ownBlock → some i ≠ v2.ownBlock ∧ w2.heap[i]? = w1.heap[i]? := fun i hi hne => by
    refine ⟨?_, (hg2.block i (by simp; omega) hne).trans (Below.heap_alloc w1 o i hi)⟩
    rcases hat with h | h <;> rw [h]
    · exact hne
    · intro e
      have := Option.some.inj e
      simp at this; omega
  refine (hrv.move fun i hi hp => ?_).snoc (hd.move fun i hi hp => ?_)
  · obtain ⟨k1, k2⟩ := key i (by omega) hp.2
    exact ⟨⟨hp.1, k1⟩, k2.trans (hb1.block i hi)⟩
  · obtain ⟨k1, k2⟩ := key i hi (fun e => by have := (hown.lt i e.symm).2; omega)
    exact ⟨⟨by omega, k1⟩, k2⟩
/-- Addresses as integers. -/
def ri (R : List (Nat × List UInt8)) : List (Int × List UInt8) := R.map fun r => ((r.1 : Int), r.2)
theorem ri_length (R : List (Nat × List UInt8)) : (ri R).length = R.length := by simp [ri]
theorem ri_snoc (R : List (Nat × List UInt8)) (a : Nat) (d : List UInt8) : ri (R ++ [(a, d)]) = ri R ++ [((a : Int), d)] := by simp [ri]
/-- Run i of a slice of runs. -/
theorem Rd.run {w : World} {p q : Nat → Prop} {A : Option Addr} {xs : List Value} {R : List (Int × List UInt8)} (h : Rd w q A xs) (hR : RunVals w p xs R) {i : Nat} (hi : i < R.length) :
    ∃ b o B c, A = some ⟨b, o, none⟩ ∧ q b ∧ w.cell? ⟨b, o + i * 2, none⟩ = some (.int .i64 R[i].1) ∧ w.cell? ⟨b, o + i * 2 + 1, none⟩ = some (.slice B R[i].2.length c) ∧ Rd w p B (bs R[i].2) := by
  obtain ⟨h1, B, c, h2, h3⟩ := hR.2 i hi
  obtain ⟨b, o, e1, e2, e3⟩ := h.ex (fun e => by
    have := hR.1
    rw [e] at this
    simp at this; omega)
  exact ⟨b, o, B, c, e1, e2, e3 _ _ h1, e3 _ _ h2, h3⟩
end Go.Proofs.YtmkgppbnhkihjaaDoor
