/- Arguments opened: a token of the reference; a slice of strings. -/
import Derived.Test.YtilfbnfejnjaeaaOpen
import Derived.Test.YtilfbnfejnjaeaaLawLsigns
import Derived.SliceStrings
namespace Go.Proofs.Ytilfbnfejnjaeaa
open Go.RowKit Go.ChangeShapes Go.WideShapes Go.Deep

theorem cellsTok : Try.prog.cellsOf 65 = 4 := by kernel_rfl
theorem cellsStr : Try.prog.cellsOf 9 = 1 := by kernel_rfl
section
variable {H : Type} {enc : TypeId × Value → H} {w : World} {base : Nat} {spare : Nat → Bool} {held : Bool}
set_option maxRecDepth 100000 in
/-- A token as an argument. -/
theorem tok_arg {r : Reach} {b0 : Nat} {v : Value} {d : DataW H} {ps : List MemPlace} (hval : Value.okWide Try.prog w r b0 65 v) (h : DataW.Trod enc Try.prog w base spare held 65 v d ps) :
    ∃ kd t n a, v = .agg #[.int .i64 kd, .string t, .int .i64 n, .int .i64 a] := by
  obtain ⟨cs, rfl, hcs⟩ := okWide_struct Try.underlying65 hval
  rw [cellsTok] at hcs
  obtain ⟨fuel, hf⟩ := h
  have hf2 : DataW.trod enc Try.prog w base spare held fuel 65 cs.toList = some (d, ps) := by simpa [Value.cells] using hf
  obtain ⟨xs, m, _, _, hlen, hxl, hfl⟩ := DataW.trod_struct Try.underlying65 hf2
  obtain ⟨l4⟩ := cs
  match l4, hcs with
  | [c0, c1, c2, c3], _ =>
    have h0 : DataW.trod enc Try.prog w base spare held m 3 (([c0, c1, c2, c3].drop 0).take (Try.prog.cellsOf 3)) = xs[0]? := hfl 0 _ rfl
    have h1 : DataW.trod enc Try.prog w base spare held m 9 (([c0, c1, c2, c3].drop 1).take (Try.prog.cellsOf 9)) = xs[1]? := hfl 1 _ rfl
    have h2 : DataW.trod enc Try.prog w base spare held m 3 (([c0, c1, c2, c3].drop 2).take (Try.prog.cellsOf 3)) = xs[2]? := hfl 2 _ rfl
    have h3 : DataW.trod enc Try.prog w base spare held m 3 (([c0, c1, c2, c3].drop 3).take (Try.prog.cellsOf 3)) = xs[3]? := hfl 3 _ rfl
    rw [cells3] at h0 h2 h3
    rw [cellsStr] at h1
    match xs, hxl with
    | [x0, x1, x2, x3], _ =>
      obtain ⟨kd, e0, _, _⟩ := DataW.trod_int Try.underlying3 (show DataW.trod _ Try.prog w base spare held m 3 [c0] = some x0 from h0)
      obtain ⟨t, e1, _⟩ := DataW.trod_string Try.underlying9 (show DataW.trod _ Try.prog w base spare held m 9 [c1] = some x1 from h1)
      obtain ⟨n, e2, _, _⟩ := DataW.trod_int Try.underlying3 (show DataW.trod _ Try.prog w base spare held m 3 [c2] = some x2 from h2)
      obtain ⟨a, e3, _, _⟩ := DataW.trod_int Try.underlying3 (show DataW.trod _ Try.prog w base spare held m 3 [c3] = some x3 from h3)
      simp only [List.cons.injEq, and_true] at e0 e1 e2 e3
      subst e0; subst e1; subst e2; subst e3
      exact ⟨kd, t, n, a, rfl⟩
set_option maxRecDepth 100000 in
/-- Strings as an argument. -/
theorem strs_arg {r : Reach} {b0 : Nat} {v : Value} {d : DataW H} {ps : List MemPlace} (hval : Value.okWide Try.prog w r b0 66 v) (h : DataW.Trod enc Try.prog w base spare held 66 v d ps) :
    ∃ A zs c, v = .slice A (zs : List ByteArray).length c ∧ Rd w (fun _ => True) A (ss zs) := by
  obtain ⟨a0, len0, cap0, hv0⟩ := okWide_slice Try.underlying66 hval
  obtain ⟨fuel, hf⟩ := h
  have hf2 : DataW.trod enc Try.prog w base spare held fuel 66 [v] = some (d, ps) := by simpa [hv0, Value.cells] using hf
  rcases open_strings Try.underlying66 Try.underlying9 cellsStr hf2 with ⟨h1, _⟩ | ⟨a, len, cap, zs, h1, _, h2, _, h3, _, h4, _⟩
  · simp only [List.cons.injEq, and_true] at h1
    exact ⟨none, [], 0, h1, Rd.nil _ _ _⟩
  · simp only [List.cons.injEq, and_true] at h1
    have hl : len ≤ zs.length := by
      rw [h3]
      split <;> omega
    refine ⟨some a, zs.take len, cap, ?_, fun _ => ⟨a, rfl, trivial, fun j u hu => ?_⟩⟩
    · rw [h1, List.length_take, Nat.min_eq_left hl]
    · simp only [ss, List.getElem?_map, Option.map_eq_some_iff] at hu
      obtain ⟨z, hz, rfl⟩ := hu
      have hj := lt_at hz
      rw [List.length_take] at hj
      have hz2 : zs[j]? = some z := by
        rw [List.getElem?_take, if_pos (by omega)] at hz
        exact hz
      have := h4 j (by omega)
      rw [List.getD_eq_getElem?_getD, hz2] at this
      exact this
end
end Go.Proofs.Ytilfbnfejnjaeaa
