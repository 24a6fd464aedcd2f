/- Bytes that are written to stay bytes, and records stay records of the same lengths. -/
import Derived.Test.YtilfbnfejnjaeaaSplit2
namespace Go.Proofs.Ytilfbnfejnjaeaa
open Go.RowKit Go.Shelf

/-- No cell of block q is frozen. -/
def NF (w : World) (q : Nat) : Prop := ∀ k, w.frozen? ⟨q, k, none⟩ = false
theorem NF.keep {w w' : World} {q : Nat} (h : NF w q) (hb : w'.heap[q]? = w.heap[q]?) : NF w' q := fun k => (World.frozen?_of_block (w := w) hb).trans (h k)
theorem NF.set {w : World} {q : Nat} (h : NF w q) (a : Addr) (u : Value) : NF (w.setCell a u) q := fun k => by
  rw [World.frozen?_setCell]; exact h k
theorem rd_nf {w : World} {base n c : Nat} {e : TypeId} {size : Nat} {A : Option Addr} {xs : List Value} (h : w.ownsRow base e size (.slice A n c) n xs) : Rd w (fun q => base ≤ q ∧ NF w q) A xs := fun hx => by
  rcases h.2 with ⟨_, h0⟩ | ⟨g, cap, cur, hv, hg, hh, _⟩
  · have := h.1; rw [h0] at this
    exact absurd (List.eq_nil_of_length_eq_zero (by simpa using this)) hx
  · injection hv with hA _ _
    subst hA
    exact ⟨_, rfl, ⟨hg, fun k => by simp [World.frozen?, hh]⟩, h.cells (g := g) rfl⟩
/-- A byte is written: what was a list of bytes is one. -/
theorem rd_set {w : World} {p q : Nat → Prop} {A : Option Addr} {l : List UInt8} {B k : Nat} {y : UInt8} {u : Value} (h : Rd w p A (bs l)) (hc : w.cell? ⟨B, k, none⟩ = some u) (hpq : ∀ i, p i → q i) :
    ∃ l' : List UInt8, l'.length = l.length ∧ Rd (w.setCell ⟨B, k, none⟩ (.int .u8 (y.toNat : Int))) q A (bs l') := by
  by_cases hl : l = []
  · subst hl
    exact ⟨[], rfl, Rd.nil _ _ _⟩
  · obtain ⟨b, o, rfl, hp, hcell⟩ := h.ex (fun e => hl (List.eq_nil_of_length_eq_zero (by rw [← bs_length, e]; rfl)))
    refine ⟨l.mapIdx fun j x => if b = B ∧ o + j = k then y else x, by simp, fun _ => ⟨_, rfl, hpq _ hp, fun j v hv => ?_⟩⟩
    obtain ⟨hj, hv⟩ := List.getElem?_eq_some_iff.1 hv
    have hjl : j < l.length := by simpa [bs_length] using hj
    rw [bs_get] at hv
    rw [List.getElem_mapIdx] at hv
    rw [Go.Addr.add_lit]
    by_cases e : b = B ∧ o + j = k
    · obtain ⟨rfl, rfl⟩ := e
      rw [if_pos ⟨rfl, rfl⟩] at hv
      rw [← hv]
      exact World.cell?_setCell_same _ _ _ hc
    · rw [if_neg e] at hv
      rw [World.cell?_setCell_other _ _ _ _ (fun e2 => e (by injection e2 with e3 e4; exact ⟨e3.symm, e4.symm⟩)), ← hv]
      refine hcell j _ ?_
      rw [List.getElem?_eq_getElem (by rw [bs_length]; exact hjl), bs_get]
theorem byte_of (z : Int) (h0 : 0 ≤ z) (h1 : z ≤ 255) : ∃ y : UInt8, z = (y.toNat : Int) := ⟨UInt8.ofNat z.toNat, by rw [UInt8.toNat_ofNat']; omega⟩
theorem rd_setz {w : World} {p q : Nat → Prop} {A : Option Addr} {l : List UInt8} {B k : Nat} {z : Int} {u : Value} (h : Rd w p A (bs l)) (hc : w.cell? ⟨B, k, none⟩ = some u) (hz : 0 ≤ z ∧ z ≤ 255) (hpq : ∀ i, p i → q i) :
    ∃ l' : List UInt8, l'.length = l.length ∧ Rd (w.setCell ⟨B, k, none⟩ (.int .u8 z)) q A (bs l') := by
  obtain ⟨y, rfl⟩ := byte_of z hz.1 hz.2
  exact rd_set h hc hpq
/-- What holds other values stays. -/
theorem rd_other {w : World} {p q : Nat → Prop} {A : Option Addr} {xs : List Value} {B k : Nat} {z u : Value} (h : Rd w p A xs) (hc : w.cell? ⟨B, k, none⟩ = some u) (hu : u ∉ xs) (hpq : ∀ i, p i → q i) :
    Rd (w.setCell ⟨B, k, none⟩ z) q A xs := fun hx => by
  obtain ⟨b, o, rfl, hp, hcell⟩ := h.ex hx
  refine ⟨_, rfl, hpq _ hp, fun j v hv => ?_⟩
  have h1 := hcell j v hv
  rw [Go.Addr.add_lit]
  rw [World.cell?_setCell_other _ _ _ _ (fun e => ?_)]
  · exact h1
  · rw [← e, hc] at h1
    obtain rfl := Option.some.inj h1
    exact hu (List.mem_of_getElem? hv)
theorem cell_other {w : World} {B k B' k' : Nat} {z u v : Value} (h : w.cell? ⟨B', k', none⟩ = some v) (hc : w.cell? ⟨B, k, none⟩ = some u) (hu : u ≠ v) : (w.setCell ⟨B, k, none⟩ z).cell? ⟨B', k', none⟩ = some v := by
  rw [World.cell?_setCell_other _ _ _ _ (fun e => ?_)]
  · exact h
  · rw [← e, hc] at h
    exact hu (Option.some.inj h)
/-- Records whose lengths are those of R. -/
def RecLens (w : World) (p : Nat → Prop) (xs : List Value) (R : List (Int × List UInt8)) : Prop :=
  xs.length = R.length * 3 ∧ ∀ i (h : i < R.length), xs[i * 3]? = some (.int .i64 0) ∧ xs[i * 3 + 1]? = some (.int .i64 R[i].1) ∧ ∃ A c l, xs[i * 3 + 2]? = some (.slice A R[i].2.length c) ∧ (l : List UInt8).length = R[i].2.length ∧ Rd w p A (bs l)
theorem RecVals.lens {w : World} {base : Nat} {xs : List Value} {R : List (Int × List UInt8)} (h : RecVals (fun u d => w.ownsRow base 5 1 u d.length (bs d)) xs R) : RecLens w (fun q => base ≤ q ∧ NF w q) xs R :=
  ⟨h.1, fun i hi => let ⟨h1, h2, A, c, h3, h4⟩ := h.2 i hi; ⟨h1, h2, A, c, _, h3, rfl, rd_nf h4⟩⟩
theorem RecLens.setz {w : World} {p q : Nat → Prop} {xs : List Value} {R : List (Int × List UInt8)} {B k : Nat} {z : Int} {u : Value} (h : RecLens w p xs R) (hc : w.cell? ⟨B, k, none⟩ = some u) (hz : 0 ≤ z ∧ z ≤ 255) (hpq : ∀ i, p i → q i) :
    RecLens (w.setCell ⟨B, k, none⟩ (.int .u8 z)) q xs R :=
  ⟨h.1, fun i hi => by
    obtain ⟨h1, h2, A, c, l, h3, h4, h5⟩ := h.2 i hi
    obtain ⟨l', h6, h7⟩ := rd_setz h5 hc hz hpq
    exact ⟨h1, h2, A, c, l', h3, h6.trans h4, h7⟩⟩
theorem RecLens.after {w w' : World} {p q : Nat → Prop} {xs : List Value} {R : List (Int × List UInt8)} (h : RecLens w p xs R) (hb : Below w.heap.size w w') (hpq : ∀ i, i < w.heap.size → p i → q i) : RecLens w' q xs R :=
  ⟨h.1, fun i hi => let ⟨h1, h2, A, c, l, h3, h4, h5⟩ := h.2 i hi; ⟨h1, h2, A, c, l, h3, h4, h5.move fun j h6 h7 => ⟨hpq j h6 h7, hb.block j h6⟩⟩⟩
/-- Record i of a slice of records of known lengths. -/
theorem Rd.recl {w : World} {p q : Nat → Prop} {A : Option Addr} {xs : List Value} {R : List (Int × List UInt8)} (h : Rd w q A xs) (hR : RecLens w p xs R) {i : Nat} (hi : i < R.length) :
    ∃ b o B c l, A = some ⟨b, o, none⟩ ∧ q b ∧ w.cell? ⟨b, o + i * 3, none⟩ = some (.int .i64 0) ∧ w.cell? ⟨b, o + i * 3 + 1, none⟩ = some (.int .i64 R[i].1) ∧ w.cell? ⟨b, o + i * 3 + 2, none⟩ = some (.slice B R[i].2.length c) ∧ (l : List UInt8).length = R[i].2.length ∧ Rd w p B (bs l) := by
  obtain ⟨h0, h1, B, c, l, h2, h3, h4⟩ := hR.2 i hi
  obtain ⟨b, o, e1, e2, e3⟩ := h.ex (fun e => by
    have := hR.1
    rw [e] at this
    simp at this; omega)
  exact ⟨b, o, B, c, l, e1, e2, e3 _ _ h0, e3 _ _ h1, e3 _ _ h2, h3, h4⟩
theorem recl_mem {w : World} {p : Nat → Prop} {xs : List Value} {R : List (Int × List UInt8)} (h : RecLens w p xs R) (y : Int) : Value.int .u8 y ∉ xs := fun hm => by
  obtain ⟨j, hj, e⟩ := List.getElem_of_mem hm
  have hl := h.1
  obtain ⟨h0, h1, A, c, l, h2, _⟩ := h.2 (j / 3) (by omega)
  have hc : j % 3 = 0 ∨ j % 3 = 1 ∨ j % 3 = 2 := by omega
  rcases hc with hc | hc | hc
  · have e1 : j / 3 * 3 = j := by omega
    rw [e1, List.getElem?_eq_getElem hj, e] at h0
    injection h0 with h0
    injection h0 with h0 h4
    cases h0
  · have e1 : j / 3 * 3 + 1 = j := by omega
    rw [e1, List.getElem?_eq_getElem hj, e] at h1
    injection h1 with h1
    injection h1 with h1 h4
    cases h1
  · have e1 : j / 3 * 3 + 2 = j := by omega
    rw [e1, List.getElem?_eq_getElem hj, e] at h2
    injection h2 with h2
    cases h2
theorem nf_set {w : World} {base : Nat} {a : Addr} {u : Value} : ∀ i, (base ≤ i ∧ NF w i) → (base ≤ i ∧ NF (w.setCell a u) i) := fun _ h => ⟨h.1, h.2.set a u⟩
/-- The state of the inner loop: the box of the round's record at N. -/
structure RSt (wo V : World) (A : Option Addr) (xs : List Value) (R : List (Int × List UInt8)) (N : Nat) (B : Option Addr) (n c : Nat) : Prop where
  bytes : ∃ l : List UInt8, l.length = n ∧ Rd V (fun q => wo.heap.size ≤ q ∧ NF V q) B (bs l)
  lens : RecLens V (fun q => wo.heap.size ≤ q ∧ NF V q) xs R
  rd : Rd V (fun q => wo.heap.size ≤ q) A xs
  below : Below wo.heap.size wo V
  cell : V.cell? ⟨N, 2, none⟩ = some (.slice B n c)
section
variable {wo V : World} {A : Option Addr} {xs : List Value} {R : List (Int × List UInt8)} {N : Nat} {B : Option Addr} {n c : Nat}
theorem RSt.start {x y : Value} {t : TypeId} {l : List UInt8} (h1 : RecLens V (fun q => wo.heap.size ≤ q ∧ NF V q) xs R) (h2 : Rd V (fun q => wo.heap.size ≤ q) A xs) (h3 : Below wo.heap.size wo V) (h4 : Rd V (fun q => wo.heap.size ≤ q ∧ NF V q) B (bs l)) (h5 : l.length = n) :
    RSt wo (V.alloc (.cells #[x, y, .slice B n c] t)) A xs R V.heap.size B n c := by
  have hb : Below V.heap.size V (V.alloc (.cells #[x, y, .slice B n c] t)) := (Below.refl _ _).alloc (Nat.le_refl _) _
  refine ⟨⟨l, h5, h4.move fun i hi hp => ⟨⟨hp.1, hp.2.keep (hb.block i hi)⟩, hb.block i hi⟩⟩, h1.after hb (fun i hi hp => ⟨hp.1, hp.2.keep (hb.block i hi)⟩), h2.after hb, h3.trans (hb.mono h3.size), ?_⟩
  have h : (V.alloc (.cells #[x, y, .slice B n c] t)).heap[V.heap.size]? = some (.cells #[x, y, .slice B n c] t (0, 0)) := heap_alloc_new V _
  unfold World.cell?
  simp only [h]
  rfl
theorem RSt.get (h : RSt wo V A xs R N B n c) {i : Nat} (hi : i < n) : ∃ b o y, B = some ⟨b, o, none⟩ ∧ V.cell? ⟨b, o + i, none⟩ = some (.int .u8 y) ∧ V.frozen? ⟨b, o + i, none⟩ = false ∧ wo.heap.size ≤ b := by
  obtain ⟨l, hl, hr⟩ := h.bytes
  obtain ⟨b, o, e, hp, hc⟩ := hr.byte (k := i) (by omega)
  exact ⟨b, o, _, e, hc, hp.2 _, hp.1⟩
theorem RSt.set (h : RSt wo V A xs R N B n c) {b k : Nat} {y z : Int} (hc : V.cell? ⟨b, k, none⟩ = some (.int .u8 y)) (hb : wo.heap.size ≤ b) (h0 : 0 ≤ z) (h1 : z ≤ 255) : Hid (RSt wo (V.setCell ⟨b, k, none⟩ (.int .u8 z)) A xs R N B n c) := by
  obtain ⟨l, hl, hr⟩ := h.bytes
  obtain ⟨l2, h2, h3⟩ := rd_setz (q := fun q => wo.heap.size ≤ q ∧ NF (V.setCell ⟨b, k, none⟩ (.int .u8 z)) q) hr hc ⟨h0, h1⟩ (fun i hi => ⟨hi.1, hi.2.set _ _⟩)
  exact ⟨⟨l2, h2.trans hl, h3⟩, h.lens.setz hc ⟨h0, h1⟩ (fun i hi => ⟨hi.1, hi.2.set _ _⟩), rd_other h.rd hc (recl_mem h.lens y) (fun _ hi => hi), h.below.setCell (p := ⟨b, k, none⟩) hb _, cell_other h.cell hc (fun e => by cases e)⟩
end
theorem byte_lo (y : Int) : 0 ≤ y % 256 := by omega
theorem byte_hi (y : Int) : y % 256 ≤ 255 := by omega
end Go.Proofs.Ytilfbnfejnjaeaa
