/- An argument that is a slice of runs, opened: it reads as a list of runs. -/
import Derived.Test.YtmkgppbnhkihjaaDoorRows
import Derived.Test.YtmkgppbnhkihjaaDoorRunv
import Derived.ProofKit
import Derived.OpenShut
import Derived.SizedLaws
namespace Go.Proofs.YtmkgppbnhkihjaaDoor
open Go.RowKit Go.ChangeShapes Go.WideShapes Go.Deep

theorem cells3 : Tryd.prog.cellsOf 3 = 1 := by kernel_rfl
theorem cells5 : Tryd.prog.cellsOf 5 = 1 := by kernel_rfl
theorem cells28 : Tryd.prog.cellsOf 28 = 1 := by kernel_rfl
theorem cells30 : Tryd.prog.cellsOf 30 = 2 := by kernel_rfl
theorem bytes30 : Tryd.prog.bytesOf 30 = 32 := by kernel_rfl

section
variable {H : Type} {enc : TypeId × Value → H} {w : World} {base : Nat} {spare : Nat → Bool} {held : Bool}
/-- A slice of bytes, opened. -/
theorem open_bytes {fuel : Nat} {cs : List Value} {x : DataW H × List MemPlace} (h : DataW.trod enc Tryd.prog w base spare held fuel 28 cs = some x) :
    ∃ A l c, cs = [.slice A (l : List UInt8).length c] ∧ Rd w (fun _ => True) A (bs l) ∧ l.length ≤ c := by
  rcases open_ints Tryd.underlying28 Tryd.underlying5 cells5 h with ⟨rfl, _⟩ | ⟨a, len, cap, zs, rfl, _, hl, hm, hz, _, hcell, hwz⟩
  · exact ⟨none, [], 0, rfl, Rd.nil _ _ _, Nat.le_refl _⟩
  · have hle : len ≤ zs.length := by rw [hz]; split <;> omega
    have e : ((zs.take len).map fun z => UInt8.ofNat z.toNat).length = len := by rw [List.length_map, List.length_take]; omega
    refine ⟨some a, (zs.take len).map fun z => UInt8.ofNat z.toNat, cap, by rw [e], fun _ => ⟨a, rfl, trivial, fun j u hu => ?_⟩, by rw [e]; exact hl⟩
    have hj : j < len := by
      rcases Nat.lt_or_ge j len with h1 | h1
      · exact h1
      · rw [List.getElem?_eq_none (by rw [bs_length, e]; exact h1)] at hu; cases hu
    have hjz : j < zs.length := by omega
    rw [List.getElem?_eq_getElem (by rw [bs_length, e]; exact hj), bs_get] at hu
    obtain rfl := Option.some.inj hu
    rw [hcell j hjz]
    have hw := hwz _ (List.getElem_mem hjz)
    have hb : 0 ≤ zs[j] ∧ zs[j] ≤ 255 := by simpa [Lit.wf, IntKind.min, IntKind.max, IntKind.signed, IntKind.bits] using hw
    simp only [List.getElem_map, List.getElem_take, List.getD, List.getElem?_eq_getElem hjz, Option.getD_some]
    congr 2
    rw [UInt8.toNat_ofNat']
    omega
/-- One run, opened. -/
theorem open_run {n : Nat} {cs : List Value} {y : DataW H × List MemPlace} (h : DataW.trod enc Tryd.prog w base spare held n 30 cs = some y) :
    ∃ z A l c, cs = [.int .i64 z, .slice A (l : List UInt8).length c] ∧ Rd w (fun _ => True) A (bs l) := by
  obtain ⟨xs, m, _, _, hlen, hxl, hf⟩ := DataW.trod_struct Tryd.underlying30 h
  rw [cells30] at hlen
  match cs, hlen with
  | [c0, c1], _ =>
    have h0 : DataW.trod enc Tryd.prog w base spare held m 3 (([c0, c1].drop 0).take (Tryd.prog.cellsOf 3)) = xs[0]? := hf 0 _ rfl
    have h1 : DataW.trod enc Tryd.prog w base spare held m 28 (([c0, c1].drop 1).take (Tryd.prog.cellsOf 28)) = xs[1]? := hf 1 _ rfl
    rw [cells3] at h0
    rw [cells28] at h1
    match xs, hxl with
    | [x0, x1], _ =>
      obtain ⟨z, e0, _, _⟩ := DataW.trod_int Tryd.underlying3 (show DataW.trod _ Tryd.prog w base spare held m 3 [c0] = some x0 from h0)
      obtain ⟨A, l, c, e1, h2, _⟩ := open_bytes (show DataW.trod _ Tryd.prog w base spare held m 28 [c1] = some x1 from h1)
      simp only [List.cons.injEq, and_true] at e0 e1
      subst e0; subst e1
      exact ⟨z, A, l, c, rfl, h2⟩
/-- A slice of runs, opened. -/
theorem open_runs {fuel : Nat} {v : Value} {x : DataW H × List MemPlace} (h : DataW.trod enc Tryd.prog w base spare held fuel 22 [v] = some x) :
    ∃ A c xs R, v = .slice A (R : List (Int × List UInt8)).length c ∧ Rd w (fun _ => True) A xs ∧ RunVals w (fun _ => True) xs R ∧ (R.length = 0 ∨ ∃ el sp, x.1 = .slice el sp ∧ el.length = R.length) := by
  rcases open_slice Tryd.underlying22 h with ⟨hcs, _⟩ | ⟨a, len, cap, m, n, D, Pl, hcs, _, hl, _, hmm, hx, hi⟩
  · simp only [List.cons.injEq, and_true] at hcs
    subst hcs
    exact ⟨none, 0, [], [], rfl, Rd.nil _ _ _, RunVals.nil _ _, .inl rfl⟩
  · simp only [List.cons.injEq, and_true] at hcs
    subst hcs
    have hlm : len ≤ m := by rw [hmm]; split <;> omega
    have key : ∀ k, k ≤ len → ∃ xs R, (R : List (Int × List UInt8)).length = k ∧ RunVals w (fun _ => True) xs R ∧ ∀ j u, xs[j]? = some u → w.cell? (a.add j) = some u := by
      intro k
      induction k with
      | zero => intro _; exact ⟨[], [], rfl, RunVals.nil _ _, fun j u hu => by simp at hu⟩
      | succ k ih =>
        intro hk
        obtain ⟨xs, R, hR, hv, hc⟩ := ih (by omega)
        obtain ⟨cs', h1, h2⟩ := hi k (by omega)
        rw [cells30] at h1
        obtain ⟨z, A, l, c, rfl, hrd⟩ := open_run h2
        obtain ⟨_, _, hat⟩ := World.cells?_some h1
        refine ⟨xs ++ [.int .i64 z, .slice A l.length c], R ++ [(z, l)], by simp [hR], hv.snoc hrd, fun j u hu => ?_⟩
        by_cases hj : j < xs.length
        · rw [List.getElem?_append_left hj] at hu
          exact hc j u hu
        · rw [List.getElem?_append_right (by omega)] at hu
          have hj2 : j - xs.length < 2 := by
            rcases Nat.lt_or_ge (j - xs.length) 2 with h3 | h3
            · exact h3
            · rw [List.getElem?_eq_none (by simpa using h3)] at hu; cases hu
          have h4 := hat (j - xs.length) hj2
          rw [add_add] at h4
          have h5 : k * 2 + (j - xs.length) = j := by have := hv.1; omega
          rw [h5] at h4
          rw [h4]
          exact hu
    obtain ⟨xs, R, hR, hv, hc⟩ := key len (Nat.le_refl _)
    subst hR
    exact ⟨some a, cap, xs, R, rfl, fun _ => ⟨a, rfl, trivial, hc⟩, hv, .inr ⟨_, _, by rw [hx], by simp⟩⟩
end
end Go.Proofs.YtmkgppbnhkihjaaDoor
