/- The walk of slices.Equal at bytes. -/
import Derived.Test.YtilfbnfejnjaeaaSmall
import Derived.WalkSpells
namespace Go.Proofs.Ytilfbnfejnjaeaa
open Go.RowKit


theorem eq_of_take {l l' : List UInt8} (hl : l.length = l'.length) {k : Nat} (h : ∀ j, j < k → l[j]? = l'[j]?) (hk : l.length ≤ k) : l = l' := by
  apply List.ext_getElem?
  intro j
  by_cases hj : j < k
  · exact h j hj
  · rw [List.getElem?_eq_none (by omega), List.getElem?_eq_none (by omega)]

theorem equal_len (A A' : Option Addr) (n n' c c' : Nat) (w : World) (hn : n ≠ n') :
    Calls Try.prog 28 #[.slice A n c, .slice A' n' c'] w fun e w' => e = .returned (.bool false) ∧ w = w' := by
  have h : (((n : Nat) : Int) != (n' : Int)) = true := by simp; omega
  clear hn
  go_enter Try.func28, Try.ntmps28
  go_wp2
  go_ret
  exact ⟨rfl, rfl⟩

theorem equal_same (A A' : Option Addr) (l l' : List UInt8) (c c' : Nat) (w : World) (p p' : Nat → Prop) (hl : l.length = l'.length) (hm : (l.length : Int) ≤ 9223372036854775807)
    (h : Rd w p A (bs l)) (h' : Rd w p' A' (bs l')) :
    Calls Try.prog 28 #[.slice A l.length c, .slice A' l.length c'] w fun e w' => e = .returned (.bool (decide (l = l'))) ∧ ∃ m, w' = w.drewN m := by
  obtain ⟨n, hn⟩ : ∃ n, l.length = n := ⟨_, rfl⟩
  have Hn := Lib.hid hn
  have Hl := Lib.hid hl
  rw [hn] at hm
  rw [hn]
  clear hn hl
  have h0 : (((n : Nat) : Int) != (n : Int)) = false := by simp
  go_enter Try.func28, Try.ntmps28
  go_wp2
  go_loopw [5, 13] (fun _ v wr => ∃ k : Nat, k ≤ n ∧ v = .int .i64 k ∧ Hid (∀ j, j < k → l[j]? = l'[j]?) ∧ ∃ m, wr = w.drewN m) (fun _ v _ => n - (intOf v).toNat)
  case atStart => exact ⟨0, Nat.zero_le _, rfl, fun j hj => absurd hj (Nat.not_lt_zero _), 0, rfl⟩
  case round =>
    obtain ⟨k, hk, rfl, hr, m, rfl⟩ := hrel
    by_cases hlt : k < n
    · have hk1 : k < l.length := by rw [Hn.out]; exact hlt
      have hk2 : k < l'.length := by rw [← Hl.out]; exact hk1
      obtain ⟨b, o, rfl, _, hc⟩ := h.byte hk1
      obtain ⟨b', o', rfl, _, hc'⟩ := h'.byte hk2
      clear h h'
      by_cases he : l[k] = l'[k]
      · have h1 : ((l[k].toNat : Int) != (l'[k].toNat : Int)) = false := by rw [he]; simp
        have hr2 : Hid (∀ j, j < k + 1 → l[j]? = l'[j]?) := fun j hj => by
          by_cases hjk : j = k
          · subst hjk; rw [List.getElem?_eq_getElem hk1, List.getElem?_eq_getElem hk2, he]
          · exact hr.out j (by omega)
        have HE := Lib.hid he
        clear hr he
        go_wp2
        go_region
        all_goals go_wp2
        all_goals go_roundw
        case rel => exact ⟨k + 1, by omega, by go_num, hr2, _, rfl⟩
        case measure => simp [intOf]; omega
      · have h1 : ((l[k].toNat : Int) != (l'[k].toNat : Int)) = true := by
          simp only [bne_iff_ne, ne_eq]
          intro e
          exact he (UInt8.toNat_inj.1 (by omega))
        have hd : Hid (decide (l = l') = false) := by
          simp only [Hid, decide_eq_false_iff_not]
          intro e
          subst e
          exact he rfl
        clear hr he
        go_wp2
        go_region
        all_goals go_wp2
        all_goals go_ret
        all_goals exact ⟨ret_bool hd.out.symm, _, rfl⟩
    · go_wp2
      go_ret
      exact ⟨ret_bool (by rw [eq_of_take Hl.out hr.out (by rw [Hn.out]; omega)]; simp), _, rfl⟩

/-- slices.Equal at two slices of bytes. -/
theorem equal_any (A A' : Option Addr) (l l' : List UInt8) (n n' c c' : Nat) (w : World) (p p' : Nat → Prop) (hn : n = l.length) (hn' : n' = l'.length) (hm : (l.length : Int) ≤ 9223372036854775807)
    (h : Rd w p A (bs l)) (h' : Rd w p' A' (bs l')) :
    Calls Try.prog 28 #[.slice A n c, .slice A' n' c'] w fun e w' => e = .returned (.bool (decide (l = l'))) ∧ ∃ m, w' = w.drewN m := by
  subst hn; subst hn'
  by_cases hl : l.length = l'.length
  · rw [← hl]
    exact equal_same A A' l l' c c' w p p' hl hm h h'
  · refine (equal_len A A' _ _ c c' w hl).mono fun e w' ⟨he, hw⟩ => ⟨?_, 0, hw.symm⟩
    rw [he]
    refine ret_bool ?_
    symm
    rw [decide_eq_false_iff_not]
    intro e
    exact hl (by rw [e])

end Go.Proofs.Ytilfbnfejnjaeaa
