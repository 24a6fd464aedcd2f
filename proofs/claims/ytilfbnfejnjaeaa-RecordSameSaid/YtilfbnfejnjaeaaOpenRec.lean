/- An argument that is a record, opened. -/
import Derived.Test.YtilfbnfejnjaeaaOpen
namespace Go.Proofs.Ytilfbnfejnjaeaa
open Go.RowKit Go.ChangeShapes Go.WideShapes Go.Deep

theorem cells29 : Try.prog.cellsOf 29 = 3 := by kernel_rfl
section
variable {H : Type} {enc : TypeId × Value → H} {w : World} {base : Nat} {spare : Nat → Bool} {held : Bool}
set_option maxRecDepth 100000 in
/-- A record as an argument. -/
theorem rec_arg {r : Reach} {b0 : Nat} {v : Value} {d : DataW H} {ps : List MemPlace} (hval : Value.okWide Try.prog w r b0 29 v) (h : DataW.Trod enc Try.prog w base spare held 29 v d ps) :
    ∃ t a A l c, v = .agg #[.int .i64 t, .int .i64 a, .slice A (l : List UInt8).length c] ∧ Rd w (fun _ => True) A (bs l) := by
  obtain ⟨cs, rfl, hcs⟩ := okWide_struct Try.underlying29 hval
  rw [cells29] at hcs
  obtain ⟨fuel, hf⟩ := h
  have hf2 : DataW.trod enc Try.prog w base spare held fuel 29 cs.toList = some (d, ps) := by simpa [Value.cells] using hf
  obtain ⟨xs, m, _, _, hlen, hxl, hfl⟩ := DataW.trod_struct Try.underlying29 hf2
  obtain ⟨l3⟩ := cs
  match l3, hcs with
  | [c0, c1, c2], _ =>
    have h0 : DataW.trod enc Try.prog w base spare held m 3 (([c0, c1, c2].drop 0).take (Try.prog.cellsOf 3)) = xs[0]? := hfl 0 _ rfl
    have h1 : DataW.trod enc Try.prog w base spare held m 3 (([c0, c1, c2].drop 1).take (Try.prog.cellsOf 3)) = xs[1]? := hfl 1 _ rfl
    have h2 : DataW.trod enc Try.prog w base spare held m 23 (([c0, c1, c2].drop 2).take (Try.prog.cellsOf 23)) = xs[2]? := hfl 2 _ rfl
    rw [cells3] at h0 h1
    rw [cells23] at h2
    match xs, hxl with
    | [x0, x1, x2], _ =>
      obtain ⟨t, e0, _, _⟩ := DataW.trod_int Try.underlying3 (show DataW.trod _ Try.prog w base spare held m 3 [c0] = some x0 from h0)
      obtain ⟨a, e1, _, _⟩ := DataW.trod_int Try.underlying3 (show DataW.trod _ Try.prog w base spare held m 3 [c1] = some x1 from h1)
      obtain ⟨A, l, c, e2, hr, _⟩ := open_bytes (show DataW.trod _ Try.prog w base spare held m 23 [c2] = some x2 from h2)
      simp only [List.cons.injEq, and_true] at e0 e1 e2
      subst e0; subst e1; subst e2
      exact ⟨t, a, A, l, c, rfl, hr⟩
end
end Go.Proofs.Ytilfbnfejnjaeaa
