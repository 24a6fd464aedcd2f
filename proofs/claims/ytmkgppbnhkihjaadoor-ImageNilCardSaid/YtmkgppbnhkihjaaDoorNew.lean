/- The walks of New. -/
import Derived.Test.YtmkgppbnhkihjaaDoorSet
import Derived.Laws.CopyOwn
namespace Go.Proofs.YtmkgppbnhkihjaaDoor
open Go.RowKit Go.Shelf

def chkB : List Value → Bool
  | [] => true
  | .int .u8 0 :: r => chkB r
  | _ :: _ => false
def chkW : Nat → List Value → Bool
  | 0, .int .i64 0 :: r => chkB r
  | n + 1, .int .u64 0 :: r => chkW n r
  | _, _ => false
theorem chkB_get : ∀ (l : List Value), chkB l = true → ∀ j, j < l.length → l[j]? = some (.int .u8 0)
  | .int .u8 0 :: r, h, 0, _ => rfl
  | .int .u8 0 :: r, h, j + 1, hj => by
    have := chkB_get r (by simpa [chkB] using h) j (by simpa using hj)
    simpa using this
theorem chkW_get : ∀ (n : Nat) (l : List Value), chkW n l = true → (∀ j, j < n → l[j]? = some (.int .u64 0)) ∧ l[n]? = some (.int .i64 0) ∧ ∀ j, n + 1 + j < l.length → l[n + 1 + j]? = some (.int .u8 0)
  | 0, .int .i64 0 :: r, h => ⟨fun j hj => absurd hj (Nat.not_lt_zero _), rfl, fun j hj => by
    have := chkB_get r (by simpa [chkW] using h) j (by simp at hj; omega)
    rw [Nat.zero_add, Nat.add_comm 1 j]
    simpa using this⟩
  | n + 1, .int .u64 0 :: r, h => by
    obtain ⟨h1, h2, h3⟩ := chkW_get n r (by simpa [chkW] using h)
    refine ⟨fun j hj => ?_, by simpa using h2, fun j hj => ?_⟩
    · cases j with
      | zero => rfl
      | succ j => simpa using h1 j (by omega)
    · have e : n + 1 + 1 + j = (n + 1 + j) + 1 := by omega
      rw [e] at hj ⊢
      have := h3 j (by simpa using hj)
      simpa using this
theorem built63 : (Tryd.prog.built 63 []).map (fun c => (c.size == 66561, chkW 1024 c.toList)) = some (true, true) := by kernel_rfl
theorem new_cells : ∃ c, Tryd.prog.built 63 [] = some c ∧ IsImg c (fun _ => false) 0 (fun _ => 0) := by
  have h := built63
  cases hb : Tryd.prog.built 63 [] with
  | none => rw [hb] at h; cases h
  | some c =>
    rw [hb] at h
    simp only [Option.map_some, Option.some.injEq, Prod.mk.injEq, beq_iff_eq] at h
    obtain ⟨h1, h2, h3⟩ := chkW_get _ _ h.2
    refine ⟨c, rfl, h.1, fun k hk => ?_, by simpa using h2, fun a ha => ?_⟩
    · have := h1 k hk
      rw [wd_none]
      simpa using this
    · have := h3 a (by simp [h.1]; omega)
      simpa using this

theorem wpList_build {P : Program} {w : World} {ops : Array Oper} {rest : List Oper} {o : Oper} {a : Act} {Q : Exit → Act → World → Prop} (hgd : o.guard = none) (t : TypeId) (ho : o.op = .build t #[]) (cells : Array Value)
    (hf : P.built t [] = some cells) (h : wpList P ops Q rest (a.put o.dst (.agg cells)) w) : wpList P ops Q (o :: rest) a w := by
  refine wpList_plain hgd fun K hK => ?_
  have hr := run_build w t #[] cells hf
  unfold Oper.wp execOp
  simp only [ho, Sem.run_bind]
  simp [hr]
  exact hK _ _ h

theorem new_any (w : World) : Calls Tryd.prog 11 #[] w fun e w' => e = .returned (.pointer (some ⟨w.heap.size, 0, none⟩)) ∧ Img w' w.heap.size (fun _ => false) 0 (fun _ => 0) ∧ Below w.heap.size w w' := by
  obtain ⟨c, hc, hi⟩ := new_cells
  go_enter Tryd.func11, Tryd.ntmps11
  go_wp2_with (refine wpList_build rfl 63 rfl c hc ?_)
  go_ret
  exact ⟨rfl, ⟨c, heap_alloc_new w _, hi⟩, (Below.refl _ _).alloc (Nat.le_refl _) _⟩
end Go.Proofs.YtmkgppbnhkihjaaDoor
