/- The walk of Parse of the package num. Printed by wip/mkparse.py. -/
import Derived.Test.YtilfbnfejnjaeaaForms
namespace Go.Proofs.Ytilfbnfejnjaeaa
open Go.RowKit

/-- The digits that form k cuts out of a word l. -/
def fcut (l : List UInt8) : Nat → List UInt8 × Bool
  | 0 => (l, true)
  | 1 => (Lib.trimPrefix (l.map upc) [48, 88], Lib.hasPrefix (l.map upc) [48, 88])
  | 2 => (Lib.trimPrefix (l.map upc) [36], Lib.hasPrefix (l.map upc) [36])
  | 3 => (Lib.trimSuffix (l.map upc) [72], Lib.hasSuffix (l.map upc) [72] && hok (Lib.trimSuffix (l.map upc) [72]))
  | 4 => (Lib.trimSuffix (l.map upc) [66], Lib.hasSuffix (l.map upc) [66])
  | _ => (Lib.trimPrefix (l.map upc) [37], Lib.hasPrefix (l.map upc) [37])
def fbase : Nat → Nat
  | 0 => 10
  | 1 => 16
  | 2 => 16
  | 3 => 16
  | _ => 2
def fval (l : List UInt8) (k : Nat) : Option Nat := if (fcut l k).2 then nval (fbase k) (fcut l k).1 else none
/-- The number of a word. -/
def pval (l : List UInt8) : Option Nat := (List.range 6).findSome? (fval l)
theorem pval_none {l : List UInt8} (h : ∀ j, j < 6 → fval l j = none) : pval l = none := by
  unfold pval
  rw [List.findSome?_eq_none_iff]
  intro x hx
  exact h x (List.mem_range.1 hx)
theorem pval_some {l : List UInt8} {k n : Nat} (hk : k < 6) (h : ∀ j, j < k → fval l j = none) (hn : fval l k = some n) : pval l = some n := by
  unfold pval
  rw [show (6 : Nat) = k + (1 + (5 - k)) from by omega, List.range_add, List.findSome?_append, List.findSome?_eq_none_iff.2 (fun x hx => h x (List.mem_range.1 hx)), List.range_add]
  simp [hn, List.range_succ]
theorem tried {l : List UInt8} {k : Nat} (h : ∀ j, j < k → fval l j = none) (hk : fval l k = none) : Hid (∀ j, j < k + 1 → fval l j = none) := fun j hj => by
  by_cases e : j = k
  · rw [e]; exact hk
  · exact h j (by omega)
/-- The cells of the six forms, whose marks lie from block g on. -/
def formCells (g : Nat) : Array Value := #[.int .i64 10, .func (.func 108) #[] #[], .int .i64 16, .func (.func 112) #[] #[.pointer (some ⟨g, 0, none⟩)], .int .i64 16, .func (.func 112) #[] #[.pointer (some ⟨g + 1, 0, none⟩)], .int .i64 16, .func (.func 110) #[] #[], .int .i64 2, .func (.func 113) #[] #[.pointer (some ⟨g + 2, 0, none⟩)], .int .i64 2, .func (.func 112) #[] #[.pointer (some ⟨g + 3, 0, none⟩)]]
/-- The world behind forms. -/
def formWorld (w : World) : World := (((((w.alloc (.cells #[.string ⟨#[48, 88]⟩] 9)).alloc (.cells #[.string ⟨#[36]⟩] 9)).alloc (.cells #[.string ⟨#[66]⟩] 9)).alloc (.cells #[.string ⟨#[37]⟩] 9)).alloc (.cells (formCells w.heap.size) 145))
set_option maxHeartbeats 1000000 in
theorem forms_any (w : World) : Calls Try.prog 105 #[] w fun e w' => e = .returned (.slice (some ⟨w.heap.size + 4, 0, none⟩) 6 6) ∧ formWorld w = w' := by
  have CP : Hid (∀ (m : ByteArray) (W : World), Calls Try.prog 109 #[.string m] W fun e w' => e = .returned (.func (.func 112) #[] #[.pointer (some ⟨W.heap.size, 0, none⟩)]) ∧ W.alloc (.cells #[.string m] 9) = w') := fun m W => prefix_any m W
  have CS : Hid (∀ (m : ByteArray) (W : World), Calls Try.prog 111 #[.string m] W fun e w' => e = .returned (.func (.func 113) #[] #[.pointer (some ⟨W.heap.size, 0, none⟩)]) ∧ W.alloc (.cells #[.string m] 9) = w') := fun m W => suffix_any m W
  go_enter Try.func105, Try.ntmps105
  go_wp2_with (first
    | (go_at_call 109; refine (CP.out _ _).mono ?_; rintro e w1 ⟨rfl, rfl⟩)
    | (go_at_call 111; refine (CS.out _ _).mono ?_; rintro e w1 ⟨rfl, rfl⟩))
  go_ret
  exact ⟨by simp, by simp [formWorld, formCells]⟩
end Go.Proofs.Ytilfbnfejnjaeaa
