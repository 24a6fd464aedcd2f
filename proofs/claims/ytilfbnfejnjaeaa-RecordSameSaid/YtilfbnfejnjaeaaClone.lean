/- The walk of slices.Clone at bytes. -/
import Derived.Test.YtilfbnfejnjaeaaSmall
import Derived.WalkSpells
namespace Go.Proofs.Ytilfbnfejnjaeaa
open Go.RowKit Go.Shelf

/-- slices.Clone at a slice of bytes. -/
theorem clone_any (A : Option Addr) (l : List UInt8) (n c : Nat) (w : World) (p : Nat → Prop) (hn : n = l.length) (hm : l.length ≤ 140737488355328) (h : Rd w p A (bs l)) :
    Calls Try.prog 18 #[.slice A n c] w fun e w' => ∃ v, e = .returned v ∧ w'.ownsRow w.heap.size 5 1 v l.length (bs l) ∧ Below w.heap.size w w' := by
  subst hn
  rcases A with _ | ad
  · have hl : l = [] := by
      apply Classical.byContradiction
      intro hx
      obtain ⟨_, e, _⟩ := h (by simpa [bs] using hx)
      cases e
    subst hl
    have hnil := fun w => Lib.run_eql_slice_nil (P := Try.prog) w 23 5 none 0 c 0 0 Try.underlying23
    go_enter Try.func18, Try.ntmps18
    go_wp2
    go_ret
    exact ⟨_, rfl, World.ownsRow_nil _ _ _ _, Below.refl _ _⟩
  · have hnil := fun w n => Lib.run_eql_slice_nil (P := Try.prog) w 23 5 (some ad) n c 0 0 Try.underlying23
    go_enter Try.func18, Try.ntmps18
    have hown : (w.alloc (.cells #[] 5)).ownsRow w.heap.size 5 1 (.slice (some ⟨w.heap.size, 0, none⟩) 0 0) 0 [] := World.ownsRow_lit w #[] 0 (Nat.le_refl _) (by decide) rfl
    have hb : Below w.heap.size w (w.alloc (.cells #[] 5)) := (Below.refl _ _).alloc (Nat.le_refl _) _
    go_wp2_with (at_builtin; refine wpList_app el_bytes rfl (.tmp 5) (.tmp 6) rfl w.heap.size _ 0 [] p (some ad) l.length c (bs l) rfl rfl hown (by rw [bs_length]; omega) (h.after hb) (bs_one l) (by simp only [maxLen]; omega) (by omega) hb.size ?_; intro v' w1 hown1 hg1 hat1 hz1)
    go_ret
    refine ⟨v', rfl, by simpa using hown1, hb.grown hg1 hb.size fun k hk => ?_⟩
    have e : w.heap.size = k := Option.some.inj hk
    omega
end Go.Proofs.Ytilfbnfejnjaeaa
