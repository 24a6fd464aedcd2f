/- Bytes that are written to stay bytes. -/
import Derived.Test.YtmkgppbnhkihjaaDoorRuns2
namespace Go.Proofs.YtmkgppbnhkihjaaDoor
open Go.RowKit Go.Shelf

theorem len_nil (w : World) : Calls Tryd.prog 23 #[.pointer none] w fun e w' => e = .returned (.int .i64 0) ∧ w = w' := by
  go_enter Tryd.func23, Tryd.ntmps23
  go_wp2
  go_ret
  exact ⟨rfl, rfl⟩
theorem NF.set {w : World} {q : Nat} (h : NF w q) (a : Addr) (u : Value) : NF (w.setCell a u) q := fun k => by
  rw [World.frozen?_setCell]; exact h k
/-- A byte is written: what was a list of bytes is one. -/
theorem rd_set {w : World} {p q : Nat → Prop} {A : Option Addr} {l : List UInt8} {B k : Nat} {y : UInt8} {u : Value} (h : Rd w p A (bs l)) (hc : w.cell? ⟨B, k, none⟩ = some u) (hpq : ∀ i, p i → q i) :
    ∃ l' : List UInt8, l'.length = l.length ∧ Rd (w.setCell ⟨B, k, none⟩ (.int .u8 (y.toNat : Int))) q A (bs l') := by
  by_cases hl : l = []
  · subst hl
    exact ⟨[], rfl, Rd.nil _ _ _⟩
  · obtain ⟨b, o, rfl, hp, hcell⟩ := h.ex (fun e => hl (List.eq_nil_of_length_eq_zero (by rw [← bs_length, e]; rfl)))
    refine ⟨l.mapIdx fun j x => if b = B ∧ o + j = k then y else x, by simp, fun _ => ⟨_, rfl, hpq _ hp, fun j v hv => ?_⟩⟩
    obtain ⟨hj, hv⟩ := List.getElem?_eq_some_iff.1 hv
    have hjl : j < l.length := by simpa [bs_length] using hj
    rw [bs_get] at hv
    rw [List.getElem_mapIdx] at hv
    rw [Go.Addr.add_lit]
    by_cases e : b = B ∧ o + j = k
    · obtain ⟨rfl, rfl⟩ := e
      rw [if_pos ⟨rfl, rfl⟩] at hv
      rw [← hv]
      exact World.cell?_setCell_same _ _ _ hc
    · rw [if_neg e] at hv
      rw [World.cell?_setCell_other _ _ _ _ (fun e2 => e (by injection e2 with e3 e4; exact ⟨e3.symm, e4.symm⟩)), ← hv]
      refine hcell j _ ?_
      rw [List.getElem?_eq_getElem (by rw [bs_length]; exact hjl), bs_get]
end Go.Proofs.YtmkgppbnhkihjaaDoor
