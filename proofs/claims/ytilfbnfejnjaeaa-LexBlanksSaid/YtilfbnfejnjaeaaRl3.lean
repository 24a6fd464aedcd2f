/- The walk of sign of the reference of the package lex. -/
import Derived.Test.YtilfbnfejnjaeaaRl2
import Derived.Deep.Cut
import Derived.Deep.CutRange
import Derived.Deep.DeepCutAuto
namespace Go.Proofs.Ytilfbnfejnjaeaa
open Go.RowKit

theorem take_two {l : List UInt8} {k : Nat} (h : l.length ≤ k + 1) (a : UInt8) : (l.drop k).take 2 ≠ [a, a] := by
  intro e
  have := congrArg List.length e
  rw [List.length_take, List.length_drop] at this
  simp at this
  omega
theorem notin_next {L : List UInt8} {i : Nat} {c d : UInt8} (h : ∀ x ∈ L.take i, x ≠ c) (hd : L[i]? = some d) (hne : c ≠ d) : ∀ x ∈ L.take (i + 1), x ≠ c := by
  intro x hx
  rw [take_at hd] at hx
  rcases List.mem_append.1 hx with hx | hx
  · exact h x hx
  · rw [List.mem_singleton.1 hx]
    exact fun e => hne e.symm
set_option maxHeartbeats 2000000 in
theorem rsign_loop_case (s : ByteArray) (k : Nat) (w : World) (hs : (s.size : Int) ≤ 140737488355328) (hk : k < s.size) (c : UInt8) (hc : s[k] = c) (r : Nat) (W2 : ByteArray) (hW : s.extract k (k + 2) = W2)
    (hcase : ((s.size : Int) ≤ (k : Int) + 1 ∨ ((k : Int) + 1 < (s.size : Int) ∧ (W2.toList == [60, 60]) = false ∧ (W2.toList == [62, 62]) = false)) ∧ ((r = 1 ∧ c ∈ signL) ∨ (r = 0 ∧ ¬ c ∈ signL))) :
    Calls Try.prog 88 #[.string s, .int .i64 (k : Int)] w fun e w' => e = .returned (.int .i64 (r : Int)) ∧ DrewOk w w' := by
  obtain ⟨h1, h2⟩ := hcase
  have hki : (k : Int) < (s.size : Int) := by omega
  have H2 := Lib.hid h2
  clear h2
  rcases h1 with h1 | ⟨h1, e1, e2⟩
  all_goals
    go_enter Try.func88, Try.ntmps88
    go_upto_region 3 with fail
    go_cut [5] (fun u wx => ∃ A : ByteArray, u = .string A ∧ A.size = 14 ∧ Hid (A.data.toList = signL) ∧ w = wx)
    case first =>
      go_wp2_with fail
      go_meet
      exact ⟨_, rfl, rfl, rfl, rfl⟩
    case rest =>
    obtain ⟨A, rfl, hA, hL, rfl⟩ := hcut
    go_wp2
    go_loopw [6] (fun v wr => ∃ (i : Nat), v = .int .i64 (i : Int) ∧ i ≤ 14 ∧ Hid (∀ x ∈ signL.take i, x ≠ c) ∧ Hid (DrewOk w wr)) (fun v _ => 14 - (intOf v).toNat)
    case atStart => exact ⟨0, rfl, Nat.zero_le _, fun x hx => (by cases hx), ⟨0, rfl⟩⟩
    case round =>
      obtain ⟨i, rfl, hi, hN, hD⟩ := hrel
      by_cases hlt : i < 14
      · have hi2 : i < A.size := by omega
        have hii : (i : Int) < (A.size : Int) := by omega
        obtain ⟨d, hd, hld⟩ := str_at A hi2
        rw [hL.out] at hld
        by_cases hcd : c = d
        · have d1 : ((c.toNat : Int) == (d.toNat : Int)) = true := by rw [hcd]; simp
          obtain rfl : r = 1 := by
            rcases H2.out with ⟨h, _⟩ | ⟨_, h⟩
            · exact h
            · exact absurd (hcd ▸ List.mem_of_getElem? hld) h
          clear hld hcd
          go_wp2
          go_quiet (fail)
          go_wp2
          go_ret
          refine ⟨rfl, ?_⟩
          obtain ⟨m, rfl⟩ := hD.out
          exact ⟨_, World.drewN_drewN _ _ _⟩
        · have d1 : ((c.toNat : Int) == (d.toNat : Int)) = false := byte_ne hcd rfl
          have HN := Lib.hid (notin_next hN.out hld hcd)
          clear hld hcd
          go_wp2
          go_quiet (fail)
          go_wp2
          go_round
          case rel =>
            refine ⟨i + 1, by go_num, by omega, HN.out, ?_⟩
            obtain ⟨m, rfl⟩ := hD.out
            exact ⟨_, World.drewN_drewN _ _ _⟩
          case measure => simp [intOf]; omega
      · obtain rfl : i = 14 := by omega
        obtain rfl : r = 0 := by
          rcases H2.out with ⟨_, h⟩ | ⟨h, _⟩
          · exact absurd rfl (hN.out c h)
          · exact h
        have hAi : (A.size : Int) = 14 := by omega
        go_wp2
        go_ret
        exact ⟨rfl, hD.out⟩
set_option maxHeartbeats 2000000 in
theorem rsign_two (s : ByteArray) (k : Nat) (w : World) (hs : (s.size : Int) ≤ 140737488355328) (W2 : ByteArray) (hW : s.extract k (k + 2) = W2) (h1 : (k : Int) + 1 < (s.size : Int))
    (hcase : (W2.toList == [60, 60]) = true ∨ ((W2.toList == [60, 60]) = false ∧ (W2.toList == [62, 62]) = true)) :
    Calls Try.prog 88 #[.string s, .int .i64 (k : Int)] w fun e w' => e = .returned (.int .i64 2) ∧ DrewOk w w' := by
  rcases hcase with e1 | ⟨e1, e2⟩
  all_goals
    go_enter Try.func88, Try.ntmps88
    go_wp2
    go_ret
    exact ⟨rfl, ⟨0, rfl⟩⟩
theorem rsign_any (s : ByteArray) (k : Nat) (w : World) (hs : (s.size : Int) ≤ 140737488355328) (hk : k < s.size) :
    Calls Try.prog 88 #[.string s, .int .i64 (k : Int)] w fun e w' => e = .returned (.int .i64 ((signLen (s.data.toList.drop k) : Nat) : Int)) ∧ DrewOk w w' := by
  obtain ⟨c, hc, hlc⟩ := str_at s hk
  obtain ⟨l, hl⟩ : ∃ l, s.data.toList = l := ⟨_, rfl⟩
  have hLs : l.length = s.size := by rw [← hl]; exact str_len s
  rw [hl] at hlc ⊢
  have hd : l.drop k = c :: l.drop (k + 1) := by rw [List.drop_eq_getElem_cons (lt_at hlc), (List.getElem_eq_iff (lt_at hlc)).2 hlc]
  obtain ⟨W2, hW⟩ : ∃ W2, s.extract k (k + 2) = W2 := ⟨_, rfl⟩
  have hWl : W2.toList = (l.drop k).take 2 := by rw [ByteArray.toList_eq, ← hW, ext_mid, hl, Nat.add_sub_cancel_left]
  have hsl : signLen (l.drop k) = if (l.drop k).take 2 = [60, 60] ∨ (l.drop k).take 2 = [62, 62] then 2 else if c ∈ signL then 1 else 0 := by rw [hd, signLen_cons]
  by_cases h2 : (l.drop k).take 2 = [60, 60] ∨ (l.drop k).take 2 = [62, 62]
  · have hlt : (k : Int) + 1 < (s.size : Int) := by
      rcases Nat.lt_or_ge (k + 1) s.size with h | h
      · omega
      · exact absurd h2 (fun h2 => h2.elim (take_two (by omega) 60) (take_two (by omega) 62))
    rw [hsl, if_pos h2]
    refine rsign_two s k w hs W2 hW hlt ?_
    rw [hWl]
    rcases h2 with h2 | h2
    · exact .inl (by rw [h2]; rfl)
    · exact .inr ⟨by rw [h2]; rfl, by rw [h2]; rfl⟩
  · rw [hsl, if_neg h2]
    refine rsign_loop_case s k w hs hk c hc _ W2 hW ⟨?_, ?_⟩
    · rcases Nat.lt_or_ge (k + 1) s.size with h | h
      · refine .inr ⟨by omega, ?_, ?_⟩
        · rw [hWl]; simpa using fun h => h2 (.inl h)
        · rw [hWl]; simpa using fun h => h2 (.inr h)
      · exact .inl (by omega)
    · by_cases h3 : c ∈ signL
      · exact .inl ⟨if_pos h3, h3⟩
      · exact .inr ⟨if_neg h3, h3⟩
end Go.Proofs.Ytilfbnfejnjaeaa
