/- An argument that is a slice of bytes, opened: with its capacity. -/
import Derived.Test.YtilfbnfejnjaeaaOpen
namespace Go.Proofs.Ytilfbnfejnjaeaa
open Go.RowKit Go.ChangeShapes Go.WideShapes Go.Deep

section
variable {H : Type} {enc : TypeId × Value → H} {w : World} {base : Nat} {spare : Nat → Bool} {held : Bool}
set_option maxRecDepth 100000 in
/-- A slice of bytes as an argument; its length is at most its capacity. -/
theorem bytes_arg2 {r : Reach} {b0 : Nat} {v : Value} {d : DataW H} {ps : List MemPlace} (hval : Value.okWide Try.prog w r b0 23 v) (h : DataW.Trod enc Try.prog w base spare held 23 v d ps) :
    ∃ A l c, v = .slice A (l : List UInt8).length c ∧ Rd w (fun _ => True) A (bs l) ∧ l.length ≤ c := by
  obtain ⟨a0, len, cap, hv0⟩ := okWide_slice Try.underlying23 hval
  obtain ⟨fuel, hf⟩ := h
  have hf2 : DataW.trod enc Try.prog w base spare held fuel 23 [v] = some (d, ps) := by simpa [hv0, Value.cells] using hf
  obtain ⟨A, l, c, h1, h2, h3⟩ := open_bytes hf2
  simp only [List.cons.injEq, and_true] at h1
  exact ⟨A, l, c, h1, h2, h3⟩
end
end Go.Proofs.Ytilfbnfejnjaeaa
