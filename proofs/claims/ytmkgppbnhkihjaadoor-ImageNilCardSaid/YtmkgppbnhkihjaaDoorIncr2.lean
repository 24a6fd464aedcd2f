/- Bytes that are written to stay bytes, and runs stay runs of the same lengths. -/
import Derived.Test.YtmkgppbnhkihjaaDoorIncr
namespace Go.Proofs.YtmkgppbnhkihjaaDoor
open Go.RowKit Go.Shelf

theorem byte_of (z : Int) (h0 : 0 ≤ z) (h1 : z ≤ 255) : ∃ y : UInt8, z = (y.toNat : Int) := ⟨UInt8.ofNat z.toNat, by rw [UInt8.toNat_ofNat']; omega⟩
theorem rd_setz {w : World} {p q : Nat → Prop} {A : Option Addr} {l : List UInt8} {B k : Nat} {z : Int} {u : Value} (h : Rd w p A (bs l)) (hc : w.cell? ⟨B, k, none⟩ = some u) (hz : 0 ≤ z ∧ z ≤ 255) (hpq : ∀ i, p i → q i) :
    ∃ l' : List UInt8, l'.length = l.length ∧ Rd (w.setCell ⟨B, k, none⟩ (.int .u8 z)) q A (bs l') := by
  obtain ⟨y, rfl⟩ := byte_of z hz.1 hz.2
  exact rd_set h hc hpq
/-- What holds other values stays. -/
theorem rd_other {w : World} {p q : Nat → Prop} {A : Option Addr} {xs : List Value} {B k : Nat} {z u : Value} (h : Rd w p A xs) (hc : w.cell? ⟨B, k, none⟩ = some u) (hu : u ∉ xs) (hpq : ∀ i, p i → q i) :
    Rd (w.setCell ⟨B, k, none⟩ z) q A xs := fun hx => by
  obtain ⟨b, o, rfl, hp, hcell⟩ := h.ex hx
  refine ⟨_, rfl, hpq _ hp, fun j v hv => ?_⟩
  have h1 := hcell j v hv
  rw [Go.Addr.add_lit]
  rw [World.cell?_setCell_other _ _ _ _ (fun e => ?_)]
  · exact h1
  · rw [← e, hc] at h1
    obtain rfl := Option.some.inj h1
    exact hu (List.mem_of_getElem? hv)
theorem cell_other {w : World} {B k B' k' : Nat} {z u v : Value} (h : w.cell? ⟨B', k', none⟩ = some v) (hc : w.cell? ⟨B, k, none⟩ = some u) (hu : u ≠ v) : (w.setCell ⟨B, k, none⟩ z).cell? ⟨B', k', none⟩ = some v := by
  rw [World.cell?_setCell_other _ _ _ _ (fun e => ?_)]
  · exact h
  · rw [← e, hc] at h
    exact hu (Option.some.inj h)
theorem runs_mem {w : World} {p : Nat → Prop} {xs : List Value} {R : List (Int × List UInt8)} (h : RunVals w p xs R) (y : Int) : Value.int .u8 y ∉ xs := fun hm => by
  obtain ⟨j, hj, e⟩ := List.getElem_of_mem hm
  have hl := h.1
  have h2 := h.2 (j / 2) (by omega)
  have hd := Nat.div_add_mod j 2
  rcases Nat.mod_two_eq_zero_or_one j with h0 | h0
  · have e1 : j / 2 * 2 = j := by omega
    have h3 := h2.1
    rw [e1, List.getElem?_eq_getElem hj, e] at h3
    injection h3 with h3
    injection h3 with h3 h4
    cases h3
  · have e1 : j / 2 * 2 + 1 = j := by omega
    obtain ⟨A, c, h3, _⟩ := h2.2
    rw [e1, List.getElem?_eq_getElem hj, e] at h3
    injection h3 with h3
    cases h3
/-- Runs whose lengths are those of R. -/
def RunLens (w : World) (p : Nat → Prop) (xs : List Value) (R : List (Int × List UInt8)) : Prop :=
  xs.length = R.length * 2 ∧ ∀ i (h : i < R.length), xs[i * 2]? = some (.int .i64 R[i].1) ∧ ∃ A c l, xs[i * 2 + 1]? = some (.slice A R[i].2.length c) ∧ (l : List UInt8).length = R[i].2.length ∧ Rd w p A (bs l)
theorem RunVals.lens {w : World} {p : Nat → Prop} {xs : List Value} {R : List (Int × List UInt8)} (h : RunVals w p xs R) : RunLens w p xs R :=
  ⟨h.1, fun i hi => let ⟨h1, A, c, h2, h3⟩ := h.2 i hi; ⟨h1, A, c, _, h2, rfl, h3⟩⟩
theorem RunLens.setz {w : World} {p q : Nat → Prop} {xs : List Value} {R : List (Int × List UInt8)} {B k : Nat} {z : Int} {u : Value} (h : RunLens w p xs R) (hc : w.cell? ⟨B, k, none⟩ = some u) (hz : 0 ≤ z ∧ z ≤ 255) (hpq : ∀ i, p i → q i) :
    RunLens (w.setCell ⟨B, k, none⟩ (.int .u8 z)) q xs R :=
  ⟨h.1, fun i hi => by
    obtain ⟨h1, A, c, l, h2, h3, h4⟩ := h.2 i hi
    obtain ⟨l', h5, h6⟩ := rd_setz h4 hc hz hpq
    exact ⟨h1, A, c, l', h2, h5.trans h3, h6⟩⟩
theorem RunLens.after {w w' : World} {p q : Nat → Prop} {xs : List Value} {R : List (Int × List UInt8)} (h : RunLens w p xs R) (hb : Below w.heap.size w w') (hpq : ∀ i, i < w.heap.size → p i → q i) : RunLens w' q xs R :=
  ⟨h.1, fun i hi => let ⟨h1, A, c, l, h2, h3, h4⟩ := h.2 i hi; ⟨h1, A, c, l, h2, h3, h4.move fun j h5 h6 => ⟨hpq j h5 h6, hb.block j h5⟩⟩⟩
/-- Run i of a slice of runs of known lengths. -/
theorem Rd.runl {w : World} {p q : Nat → Prop} {A : Option Addr} {xs : List Value} {R : List (Int × List UInt8)} (h : Rd w q A xs) (hR : RunLens w p xs R) {i : Nat} (hi : i < R.length) :
    ∃ b o B c l, A = some ⟨b, o, none⟩ ∧ q b ∧ w.cell? ⟨b, o + i * 2, none⟩ = some (.int .i64 R[i].1) ∧ w.cell? ⟨b, o + i * 2 + 1, none⟩ = some (.slice B R[i].2.length c) ∧ (l : List UInt8).length = R[i].2.length ∧ Rd w p B (bs l) := by
  obtain ⟨h1, B, c, l, h2, h3, h4⟩ := hR.2 i hi
  obtain ⟨b, o, e1, e2, e3⟩ := h.ex (fun e => by
    have := hR.1
    rw [e] at this
    simp at this; omega)
  exact ⟨b, o, B, c, l, e1, e2, e3 _ _ h1, e3 _ _ h2, h3, h4⟩
theorem runl_mem {w : World} {p : Nat → Prop} {xs : List Value} {R : List (Int × List UInt8)} (h : RunLens w p xs R) (y : Int) : Value.int .u8 y ∉ xs := fun hm => by
  obtain ⟨j, hj, e⟩ := List.getElem_of_mem hm
  have hl := h.1
  have h2 := h.2 (j / 2) (by omega)
  rcases Nat.mod_two_eq_zero_or_one j with h0 | h0
  · have e1 : j / 2 * 2 = j := by omega
    have h3 := h2.1
    rw [e1, List.getElem?_eq_getElem hj, e] at h3
    injection h3 with h3
    injection h3 with h3 h4
    cases h3
  · have e1 : j / 2 * 2 + 1 = j := by omega
    obtain ⟨A, c, l, h3, _⟩ := h2.2
    rw [e1, List.getElem?_eq_getElem hj, e] at h3
    injection h3 with h3
    cases h3
theorem nf_set {w : World} {base : Nat} {a : Addr} {u : Value} : ∀ i, (base ≤ i ∧ NF w i) → (base ≤ i ∧ NF (w.setCell a u) i) := fun _ h => ⟨h.1, h.2.set a u⟩
end Go.Proofs.YtmkgppbnhkihjaaDoor
