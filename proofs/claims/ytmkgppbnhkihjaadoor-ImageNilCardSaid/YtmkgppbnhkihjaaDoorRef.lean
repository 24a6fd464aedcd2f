/- The walks of the reference's Find, Get and Few, and of Get and Len of an image. -/
import Derived.Test.YtmkgppbnhkihjaaDoorSli
import Derived.Test.YtmkgppbnhkihjaaDoorSeg
namespace Go.Proofs.YtmkgppbnhkihjaaDoor
open Go.RowKit

/-- Cells of the reference as values. -/
def cl (L : List (Nat × UInt8)) : List Value := L.flatMap fun c => [.int .i64 (c.1 : Int), .int .u8 (c.2.toNat : Int)]
theorem cl_length (L : List (Nat × UInt8)) : (cl L).length = L.length * 2 := by
  induction L with
  | nil => rfl
  | cons c L ih => simp only [cl, List.flatMap_cons, List.length_append, List.length_cons, List.length_nil] at ih ⊢; omega
theorem cl_append (L M : List (Nat × UInt8)) : cl (L ++ M) = cl L ++ cl M := by simp [cl]
theorem cl_cons (c : Nat × UInt8) (L : List (Nat × UInt8)) : cl (c :: L) = .int .i64 (c.1 : Int) :: .int .u8 (c.2.toNat : Int) :: cl L := by simp [cl]
theorem cl_get (L : List (Nat × UInt8)) : ∀ i (h : i < L.length), (cl L)[i * 2]? = some (.int .i64 (L[i].1 : Int)) ∧ (cl L)[i * 2 + 1]? = some (.int .u8 (L[i].2.toNat : Int)) := by
  induction L with
  | nil => intro i h; simp at h
  | cons c L ih =>
    intro i h
    cases i with
    | zero => simp [cl_cons]
    | succ i =>
      have := ih i (by simpa using h)
      rw [cl_cons, show (i + 1) * 2 = i * 2 + 1 + 1 from by omega]
      simpa using this
theorem Rd.cell {w : World} {p : Nat → Prop} {A : Option Addr} {L : List (Nat × UInt8)} (h : Rd w p A (cl L)) {i : Nat} (hi : i < L.length) :
    ∃ b o, A = some ⟨b, o, none⟩ ∧ p b ∧ w.cell? ⟨b, o + i * 2, none⟩ = some (.int .i64 (L[i].1 : Int)) ∧ w.cell? ⟨b, o + i * 2 + 1, none⟩ = some (.int .u8 (L[i].2.toNat : Int)) := by
  obtain ⟨b, o, h1, h2, h3⟩ := h.ex (fun e => by
    have := cl_length L
    rw [e] at this
    simp at this; omega)
  exact ⟨b, o, h1, h2, h3 _ _ (cl_get L i hi).1, h3 _ _ (cl_get L i hi).2⟩

theorem fi_eq (L : List (Nat × UInt8)) (a : Int) : ∀ k, k ≤ L.length → (∀ j (h : j < L.length), j < k → (L[j].1 : Int) < a) → (∀ h : k < L.length, ¬ (L[k].1 : Int) < a) → fi L a = k := by
  induction L with
  | nil => intro k hk _ _; simp at hk; subst hk; rfl
  | cons c L ih =>
    intro k hk h1 h2
    cases k with
    | zero =>
      have := h2 (by simp)
      simp only [List.getElem_cons_zero] at this
      simp [fi, this]
    | succ k =>
      have h0 := h1 0 (by simp) (by omega)
      simp only [List.getElem_cons_zero] at h0
      have := ih k (by simpa using hk) (fun j h hj => h1 (j + 1) (by simpa using h) (by omega)) (fun h => h2 (by simpa using h))
      unfold fi at this ⊢
      rw [List.takeWhile_cons]
      simp [h0, this]

theorem find_any (A : Option Addr) (L : List (Nat × UInt8)) (n c : Nat) (a : Int) (w : World) (p : Nat → Prop) (hn : n = L.length) (hm : (n : Int) ≤ 4611686018427387904) (h : Rd w p A (cl L)) :
    Calls Tryd.prog 27 #[.slice A n c, .int .i64 a] w fun e w' => e = .returned (.int .i64 (fi L a)) ∧ w = w' := by
  have HN := Lib.hid hn
  clear hn
  go_enter Tryd.func27, Tryd.ntmps27
  go_wp2
  go_loop [5] (fun v => ∃ k : Nat, k ≤ n ∧ v = .int .i64 k ∧ Hid (∀ j (h : j < L.length), j < k → (L[j].1 : Int) < a)) (fun v => n - (intOf v).toNat)
  case atStart => exact ⟨0, Nat.zero_le _, rfl, fun j _ hj => absurd hj (Nat.not_lt_zero _)⟩
  case round =>
    obtain ⟨k, hk, rfl, hr⟩ := hrel
    by_cases hlt : k < n
    · have hl : k < L.length := by rw [← HN.out]; exact hlt
      obtain ⟨b, o, rfl, _, hc, _⟩ := h.cell hl
      clear h
      by_cases hc2 : (L[k].1 : Int) < a
      · have d1 : decide (((k : Nat) : Int) < (n : Int)) = true := by simp; omega
        have d2 : decide ((L[k].1 : Int) < a) = true := by simpa using hc2
        have hr2 : Hid (∀ j (h : j < L.length), j < k + 1 → (L[j].1 : Int) < a) := fun j hj hjk => by
          by_cases e : j = k
          · subst e; exact hc2
          · exact hr.out j hj (by omega)
        clear hr hc2
        go_wp2
        go_round
        case rel => exact ⟨k + 1, by omega, by go_num, hr2⟩
        case measure => simp [intOf]; omega
      · have d1 : decide (((k : Nat) : Int) < (n : Int)) = true := by simp; omega
        have d2 : decide ((L[k].1 : Int) < a) = false := by simpa using hc2
        have hf : Hid (fi L a = k) := fi_eq L a k (by rw [← HN.out]; exact hk) hr.out (fun _ => hc2)
        clear hr hc2
        go_wp2
        go_ret
        exact ⟨ret_int (by rw [hf.out]), rfl⟩
    · have d1 : decide (((k : Nat) : Int) < (n : Int)) = false := by simp; omega
      have hf : Hid (fi L a = k) := fi_eq L a k (by rw [← HN.out]; exact hk) hr.out (fun h => by rw [← HN.out] at h; omega)
      clear hr
      go_wp2
      go_ret
      exact ⟨ret_int (by rw [hf.out]), rfl⟩

/-- Get of the reference. -/
def rget (L : List (Nat × UInt8)) (a : Int) : Option UInt8 := match L[fi L a]? with | some c => if (c.1 : Int) = a then some c.2 else none | none => none
theorem rget_yes {L : List (Nat × UInt8)} {a : Int} (h : fi L a < L.length) (e : (L[fi L a].1 : Int) = a) : rget L a = some L[fi L a].2 := by
  simp only [rget, List.getElem?_eq_getElem h, if_pos e]
theorem rget_no {L : List (Nat × UInt8)} {a : Int} (h : fi L a < L.length) (e : ¬ (L[fi L a].1 : Int) = a) : rget L a = none := by
  simp only [rget, List.getElem?_eq_getElem h, if_neg e]
theorem rget_end {L : List (Nat × UInt8)} {a : Int} (h : L.length ≤ fi L a) : rget L a = none := by
  simp only [rget, List.getElem?_eq_none h]
def got (o : Option UInt8) : Value := match o with | some x => .tuple #[.int .u8 (x.toNat : Int), .bool true] | none => .tuple #[.int .u8 0, .bool false]

theorem fi_le (L : List (Nat × UInt8)) (a : Int) : fi L a ≤ L.length := List.Sublist.length_le (List.takeWhile_sublist _)

theorem rget_any (A : Option Addr) (L : List (Nat × UInt8)) (n c : Nat) (a : Int) (w : World) (p : Nat → Prop) (hn : n = L.length) (hm : (n : Int) ≤ 4611686018427387904) (h : Rd w p A (cl L)) :
    Calls Tryd.prog 20 #[.slice A n c, .int .i64 a] w fun e w' => e = .returned (got (rget L a)) ∧ w = w' := by
  have hfl := fi_le L a
  have H := Lib.hid (find_any A L n c a w p hn hm h)
  obtain ⟨k, hk⟩ : ∃ k, fi L a = k := ⟨_, rfl⟩
  rw [hk] at H hfl
  have HK := Lib.hid hk
  by_cases hlt : k < n
  · have hl : k < L.length := by rw [← hn]; exact hlt
    have HN := Lib.hid hn
    obtain ⟨b, o, rfl, _, hc, hc'⟩ := h.cell hl
    have d1 : decide (((k : Nat) : Int) < (n : Int)) = true := by simp; omega
    by_cases he : (L[k].1 : Int) = a
    · have d2 : (((L[k].1 : Nat) : Int) == a) = true := by simpa using he
      have hr : Hid (rget L a = some L[k].2) := by
        subst hk
        exact rget_yes hl he
      clear hk hn h he hfl
      go_enter Tryd.func20, Tryd.ntmps20
      go_wp2_with (go_at_call 27; refine H.out.mono ?_; rintro e w' ⟨rfl, rfl⟩)
      go_ret2
      exact ⟨by rw [hr.out]; rfl, rfl⟩
    · have d2 : (((L[k].1 : Nat) : Int) == a) = false := by simpa using he
      have hr : Hid (rget L a = none) := by
        subst hk
        exact rget_no hl he
      clear hk hn h he hfl
      go_enter Tryd.func20, Tryd.ntmps20
      go_wp2_with (go_at_call 27; refine H.out.mono ?_; rintro e w' ⟨rfl, rfl⟩)
      go_ret2
      exact ⟨by rw [hr.out]; rfl, rfl⟩
  · have d1 : decide (((k : Nat) : Int) < (n : Int)) = false := by simp; omega
    have hr : Hid (rget L a = none) := rget_end (by omega)
    clear hk hn h hfl
    go_enter Tryd.func20, Tryd.ntmps20
    go_wp2_with (go_at_call 27; refine H.out.mono ?_; rintro e w' ⟨rfl, rfl⟩)
    go_ret2
    exact ⟨by rw [hr.out]; rfl, rfl⟩
end Go.Proofs.YtmkgppbnhkihjaaDoor
