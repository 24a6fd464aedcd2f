/- An argument that is a slice of bytes or a record, opened: it reads as a list of bytes. -/
import Derived.Test.YtilfbnfejnjaeaaKit
import Derived.Test.YtilfbnfejnjaeaaRows
import Derived.ProofKit
import Derived.OpenShut
import Derived.SizedLaws
namespace Go.Proofs.Ytilfbnfejnjaeaa
open Go.RowKit Go.ChangeShapes Go.WideShapes Go.Deep

theorem cells3 : Try.prog.cellsOf 3 = 1 := by kernel_rfl
theorem cells5 : Try.prog.cellsOf 5 = 1 := by kernel_rfl
theorem cells23 : Try.prog.cellsOf 23 = 1 := by kernel_rfl

section
variable {H : Type} {enc : TypeId × Value → H} {w : World} {base : Nat} {spare : Nat → Bool} {held : Bool}
/-- A slice of bytes, opened. -/
theorem open_bytes {fuel : Nat} {cs : List Value} {x : DataW H × List MemPlace} (h : DataW.trod enc Try.prog w base spare held fuel 23 cs = some x) :
    ∃ A l c, cs = [.slice A (l : List UInt8).length c] ∧ Rd w (fun _ => True) A (bs l) ∧ l.length ≤ c := by
  rcases open_ints Try.underlying23 Try.underlying5 cells5 h with ⟨rfl, _⟩ | ⟨a, len, cap, zs, rfl, _, hl, hm, hz, _, hcell, hwz⟩
  · exact ⟨none, [], 0, rfl, Rd.nil _ _ _, Nat.le_refl _⟩
  · have hle : len ≤ zs.length := by rw [hz]; split <;> omega
    have e : ((zs.take len).map fun z => UInt8.ofNat z.toNat).length = len := by rw [List.length_map, List.length_take]; omega
    refine ⟨some a, (zs.take len).map fun z => UInt8.ofNat z.toNat, cap, by rw [e], fun _ => ⟨a, rfl, trivial, fun j u hu => ?_⟩, by rw [e]; exact hl⟩
    have hj : j < len := by
      rcases Nat.lt_or_ge j len with h1 | h1
      · exact h1
      · rw [List.getElem?_eq_none (by rw [bs_length, e]; exact h1)] at hu; cases hu
    have hjz : j < zs.length := by omega
    rw [List.getElem?_eq_getElem (by rw [bs_length, e]; exact hj), bs_get] at hu
    obtain rfl := Option.some.inj hu
    rw [hcell j hjz]
    have hw := hwz _ (List.getElem_mem hjz)
    have hb : 0 ≤ zs[j] ∧ zs[j] ≤ 255 := by simpa [Lit.wf, IntKind.min, IntKind.max, IntKind.signed, IntKind.bits] using hw
    simp only [List.getElem_map, List.getElem_take, List.getD, List.getElem?_eq_getElem hjz, Option.getD_some]
    congr 2
    rw [UInt8.toNat_ofNat']
    omega
set_option maxRecDepth 100000 in
/-- A slice of bytes as an argument. -/
theorem bytes_arg {r : Reach} {b0 : Nat} {v : Value} {d : DataW H} {ps : List MemPlace} (hval : Value.okWide Try.prog w r b0 23 v) (h : DataW.Trod enc Try.prog w base spare held 23 v d ps) :
    ∃ A l c, v = .slice A (l : List UInt8).length c ∧ Rd w (fun _ => True) A (bs l) := by
  obtain ⟨a0, len, cap, hv0⟩ := okWide_slice Try.underlying23 hval
  obtain ⟨fuel, hf⟩ := h
  have hf2 : DataW.trod enc Try.prog w base spare held fuel 23 [v] = some (d, ps) := by simpa [hv0, Value.cells] using hf
  obtain ⟨A, l, c, h1, h2, _⟩ := open_bytes hf2
  simp only [List.cons.injEq, and_true] at h1
  exact ⟨A, l, c, h1, h2⟩
end
end Go.Proofs.Ytilfbnfejnjaeaa
