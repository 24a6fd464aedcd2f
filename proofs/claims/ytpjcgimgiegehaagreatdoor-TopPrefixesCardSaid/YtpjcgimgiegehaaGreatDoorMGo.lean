/- No body of the program starts a goroutine. -/
import Derived.Test.YtpjcgimgiegehaaGreatDoorTie
namespace Go.Proofs.YtpjcgimgiegehaaGreatDoor

theorem none_goes : Tryz.prog.funcs.any Func.goes = false := by kernel_rfl
theorem goes_none {P : Program} (h : P.funcs.any Func.goes = false) (f : FuncId) : P.goes f = false := by
  have h1 : ∀ g : Nat, (P.funcs[g]?).any Func.goes = false := fun g => by
    cases hg : P.funcs[g]? with
    | none => rfl
    | some fn =>
      have := (Array.any_eq_false.1 h)
      obtain ⟨hlt, e⟩ := Array.getElem?_eq_some_iff.1 hg
      have h2 := this g hlt
      rw [e] at h2
      simpa using h2
  unfold Program.goes
  rw [h, Bool.and_false, Bool.or_false, List.any_eq_false]
  intro g _
  rw [h1 g]
  simp
theorem goes_from {P : Program} (h : P.funcs.any Func.goes = false) (s : String) : P.goesFrom s = false := by
  unfold Program.goesFrom
  cases P.funcNamed s with
  | none => rfl
  | some f => exact goes_none h f
theorem goes_at {P : Program} (h : P.funcs.any Func.goes = false) (s : String) : P.goesAt .entering s = false := by
  unfold Program.goesAt
  rw [goes_from h]
  rfl
set_option maxRecDepth 100000 in
theorem goes_row : false = Rows.topPrefixesRow.goesBy Tryz.prog := (goes_at none_goes Rows.topPrefixesRow.func).symm
end Go.Proofs.YtpjcgimgiegehaaGreatDoor
