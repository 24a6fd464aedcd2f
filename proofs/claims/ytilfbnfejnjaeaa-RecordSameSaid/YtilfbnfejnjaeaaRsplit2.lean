/- Split of the reference, whatever its arguments. -/
import Derived.Test.YtilfbnfejnjaeaaRsplit
namespace Go.Proofs.Ytilfbnfejnjaeaa
open Go.RowKit Go.Shelf

theorem rsplit_any (a sz : Int) (A : Option Addr) (l : List UInt8) (c : Nat) (w : World) (p : Nat → Prop) (hc : l.length ≤ c) (h : Rd w p A (bs l)) :
    Calls Try.prog 27 #[.int .i64 a, .int .i64 sz, .slice A l.length c] w fun e w' => ∃ v xs, e = .returned v ∧ w'.ownsRow w.heap.size 29 3 v (splitR a sz l).length xs ∧
      RecVals (fun u d => ∃ A c, u = .slice A d.length c ∧ Rd w' p A (bs d)) xs (splitR a sz l) ∧ Below w.heap.size w w' := by
  cases hs : splitOk a sz l.length with
  | false =>
    refine (rsplit_no a sz A l.length c w hs).mono ?_
    rintro e w' ⟨rfl, rfl⟩
    simp only [splitR, hs]
    exact ⟨_, [], rfl, World.ownsRow_nil _ _ _ _, RecVals.nil _, Below.refl _ _⟩
  | true =>
    have hs' := hs
    simp only [splitOk, decide_eq_true_eq] at hs'
    obtain ⟨h1, h2, h3, h4, h5⟩ := hs'
    obtain ⟨n, rfl⟩ : ∃ n : Nat, sz = n := ⟨sz.toNat, by omega⟩
    have := rsplit_yes a n A l c w p h1 h2 h3 h4 h5 hc h
    simpa [splitR, hs] using this
end Go.Proofs.Ytilfbnfejnjaeaa
