/- The walks of IsWord, quoted and sign of the reference of the package lex. -/
import Derived.Test.YtilfbnfejnjaeaaRl1
import Derived.Test.YtilfbnfejnjaeaaLtext
import Derived.Test.YtilfbnfejnjaeaaLsign
import Derived.Test.YtilfbnfejnjaeaaLtoks
namespace Go.Proofs.Ytilfbnfejnjaeaa
open Go.RowKit

theorem risword_any (s : ByteArray) (w : World) (hs : (s.size : Int) ≤ 140737488355328) :
    Calls Try.prog 33 #[.string s] w fun e w' => e = .returned (.bool (isWd s.data.toList)) ∧ Below w.heap.size w w' := by
  obtain ⟨l, hl⟩ : ∃ l, s.data.toList = l := ⟨_, rfl⟩
  have hLs : l.length = s.size := by rw [← hl]; exact str_len s
  have hE := str_empty s
  have CW : Hid (Calls Try.prog 60 #[.string s, .int .i64 0] w fun e w' => e = .returned (.int .i64 ((wordLen l : Nat) : Int)) ∧ Below w.heap.size w w') := by
    have := rword_any s 0 w hs (Nat.zero_le _)
    rw [List.drop_zero, hl, Nat.zero_add] at this
    exact this
  rw [hl] at hE ⊢
  by_cases h0 : l = []
  · rw [decide_eq_true h0] at hE
    have HV : Hid (isWd l = false) := by rw [h0]; rfl
    rw [HV.out]
    clear hl hLs CW h0
    go_enter Try.func33, Try.ntmps33
    go_wp2
    go_ret
    exact ⟨rfl, Below.refl _ _⟩
  · rw [decide_eq_false h0] at hE
    obtain ⟨n, hn⟩ : ∃ n, wordLen l = n := ⟨_, rfl⟩
    have hpos : 0 < l.length := List.length_pos_iff.2 h0
    have HV : Hid (isWd l = decide ((n : Int) = (s.size : Int))) := by
      show _ = _
      unfold isWd
      rw [hn]
      by_cases h : n = l.length
      · rw [decide_eq_true h, decide_eq_true (by omega), decide_eq_true (by omega)]; rfl
      · rw [decide_eq_false h, decide_eq_false (show ¬ (n : Int) = (s.size : Int) by omega), Bool.and_false]
    rw [HV.out]
    rw [hn] at CW
    clear hl hLs h0 hn hpos
    go_enter Try.func33, Try.ntmps33
    go_wp2_with (go_at_call 60; refine CW.out.mono ?_; rintro e w1 ⟨rfl, hb⟩; have B1 := Lib.hid hb; clear hb)
    go_ret
    exact ⟨ret_bool (by first | rfl | simp), B1.out⟩
/-- What quoted gives: the text and the place behind it, or -1. -/
def rqV (q : Option (List UInt8 × Nat)) (k : Nat) : Value :=
  match q with
  | some p => .tuple #[.string ⟨p.1.toArray⟩, .int .i64 ((k + 1 + p.2 : Nat) : Int)]
  | none => .tuple #[.string ⟨#[]⟩, .int .i64 (-1)]
/-- acc has been read, the place is n bytes behind the first mark; byte by byte. -/
theorem QAt.byte {m c : UInt8} {q : Option (List UInt8 × Nat)} {acc rest : List UInt8} {n : Nat} (h : QAt m q acc n (c :: rest)) (hc : c ≠ m) : QAt m q (acc ++ [c]) (n + 1) rest := by
  unfold QAt at h ⊢
  rw [h, quo_cons_ne hc]
  cases quo m rest with
  | none => rfl
  | some p => simp; omega
theorem QAt.two {m : UInt8} {q : Option (List UInt8 × Nat)} {acc rest : List UInt8} {n : Nat} (h : QAt m q acc n (m :: m :: rest)) : QAt m q (acc ++ [m]) (n + 2) rest := by
  unfold QAt at h ⊢
  rw [h, quo_cons_two]
  cases quo m rest with
  | none => rfl
  | some p => simp; omega
theorem QAt.stop1 {m : UInt8} {q : Option (List UInt8 × Nat)} {acc : List UInt8} {n : Nat} (h : QAt m q acc n [m]) : q = some (acc, n + 1) := by
  rw [h, quo_cons_end]; simp
theorem QAt.stop2 {m d : UInt8} {q : Option (List UInt8 × Nat)} {acc rest : List UInt8} {n : Nat} (h : QAt m q acc n (m :: d :: rest)) (hd : d ≠ m) : q = some (acc, n + 1) := by
  rw [h, quo_cons_stop hd]; simp
theorem QAt.nil {m : UInt8} {q : Option (List UInt8 × Nat)} {acc : List UInt8} {n : Nat} (h : QAt m q acc n []) : q = Option.none := by
  rw [h]; rfl
theorem ext_one {s : ByteArray} {l : List UInt8} {j : Nat} {c : UInt8} (hl : s.data.toList = l) (h : l[j]? = some c) : s.extract j (j + 1) = ⟨#[c]⟩ := by
  have h' : (s.extract j (j + 1)).data.toList = [c] := by
    rw [ext_mid, hl, List.drop_eq_getElem_cons (lt_at h), (List.getElem_eq_iff (lt_at h)).2 h]
    simp
  exact bytes_of h'
theorem app_one {T : ByteArray} {acc : List UInt8} (h : T = ⟨acc.toArray⟩) (c : UInt8) : T ++ ⟨#[c]⟩ = ⟨(acc ++ [c]).toArray⟩ := by
  subst h
  apply ByteArray.ext
  rw [ByteArray.data_append]
  simp
set_option maxHeartbeats 2000000 in
theorem rquoted_any (s : ByteArray) (k : Nat) (w : World) (hs : (s.size : Int) ≤ 140737488355328) (hk : k < s.size) (c : UInt8) (hc : s.data.toList[k]? = some c) :
    Calls Try.prog 87 #[.string s, .int .i64 (k : Int)] w fun e w' => e = .returned (rqV (quo c (s.data.toList.drop (k + 1))) k) ∧ w = w' := by
  obtain ⟨l, hl⟩ : ∃ l, s.data.toList = l := ⟨_, rfl⟩
  have hLs : l.length = s.size := by rw [← hl]; exact str_len s
  have HA : Hid (∀ j (h : j < s.size), ∃ c : UInt8, s[j] = c ∧ l[j]? = some c) := by subst hl; exact fun j h => str_at s h
  obtain ⟨q, hq⟩ : ∃ q, quo c (l.drop (k + 1)) = q := ⟨_, rfl⟩
  have HQ0 : Hid (QAt c q [] 0 (l.drop (k + 1))) := by show QAt _ _ _ _ _; rw [← hq]; exact QAt.start _ _
  obtain ⟨c', hc', hlc⟩ := HA.out k hk
  rw [hl] at hc ⊢
  rw [hq]
  obtain ⟨V, hV⟩ : ∃ V, rqV q k = V := ⟨_, rfl⟩
  have HV := Lib.hid hV
  rw [hV]
  obtain rfl : c' = c := by rw [hlc] at hc; exact Option.some.inj hc
  have hki : (k : Int) < (s.size : Int) := by omega
  have HL := Lib.hid hl
  have HLs := Lib.hid hLs
  clear hl hLs hq hc hlc hV
  go_enter Try.func87, Try.ntmps87
  go_wp2
  go_loop [7, 8] (fun u v => ∃ (j : Nat) (T : ByteArray) (acc : List UInt8), v = .int .i64 (j : Int) ∧ u = .string T ∧ k + 1 ≤ j ∧ j ≤ s.size ∧ T.size + (k + 1) ≤ j ∧ Hid (T = ⟨acc.toArray⟩) ∧ Hid (QAt c' q acc (j - (k + 1)) (l.drop j))) (fun _ v => s.size - (intOf v).toNat)
  case atStart => exact ⟨k + 1, ⟨#[]⟩, [], rfl, rfl, Nat.le_refl _, hk, by show 0 + (k + 1) ≤ k + 1; omega, rfl, by show QAt _ _ _ _ _; rw [Nat.sub_self]; exact HQ0.out⟩
  case round =>
    obtain ⟨j, T, acc, rfl, rfl, hkj, hj, hTs, hT, hQ⟩ := hrel
    by_cases hlt : j < s.size
    · have hji : (j : Int) < (s.size : Int) := by omega
      have hTi : (T.size : Int) ≤ 140737488355328 := by omega
      obtain ⟨d, hd, hld⟩ := HA.out j hlt
      have hX := ext_one HL.out hld
      have hdrop : l.drop j = d :: l.drop (j + 1) := by
        rw [List.drop_eq_getElem_cons (lt_at hld), (List.getElem_eq_iff (lt_at hld)).2 hld]
      have hQd := hQ.out
      rw [hdrop] at hQd
      have HT1 := Lib.hid (app_one hT.out d)
      have hTs1 : (T ++ ⟨#[d]⟩ : ByteArray).size = T.size + 1 := by rw [ByteArray.size_append]; rfl
      by_cases hdc : d = c'
      · subst hdc
        have d1 : ((d.toNat : Int) != (d.toNat : Int)) = false := by simp
        by_cases hlt2 : j + 1 < s.size
        · obtain ⟨g, hg, hlg⟩ := HA.out (j + 1) hlt2
          have hji2 : (j : Int) + 1 < (s.size : Int) := by omega
          have hdrop2 : l.drop (j + 1) = g :: l.drop (j + 2) := by
            rw [List.drop_eq_getElem_cons (lt_at hlg), (List.getElem_eq_iff (lt_at hlg)).2 hlg]
          rw [hdrop2] at hQd
          by_cases hgd : g = d
          · subst hgd
            have HN : Hid (QAt g q (acc ++ [g]) (j + 2 - (k + 1)) (l.drop (j + 2))) := by
              have := hQd.two
              show QAt _ _ _ _ _
              rw [show j + 2 - (k + 1) = j - (k + 1) + 2 from by omega]
              exact this
            have hsz : (T ++ ⟨#[g]⟩ : ByteArray).size + (k + 1) ≤ j + 2 := by omega
            clear hdrop hdrop2 hQd hld hlg hTs1
            go_wp2
            go_round
            case rel => exact ⟨j + 2, _, acc ++ [g], by go_num, rfl, by omega, by omega, hsz, HT1.out, HN.out⟩
            case measure => simp [intOf]; omega
          · have d2 : ((g.toNat : Int) == (d.toNat : Int)) = false := byte_ne hgd rfl
            obtain rfl : V = .tuple #[.string T, .int .i64 ((j : Int) + 1)] := by
              rw [← HV.out]
              rw [hQd.stop2 hgd]
              show Value.tuple #[.string ⟨acc.toArray⟩, .int .i64 ((k + 1 + (j - (k + 1) + 1) : Nat) : Int)] = _
              rw [← hT.out, show ((k + 1 + (j - (k + 1) + 1) : Nat) : Int) = (j : Int) + 1 from by omega]
            clear hdrop hdrop2 hQd hld hlg hTs1
            go_wp2
            go_ret2
            exact ⟨rfl, rfl⟩
        · have hji2 : (s.size : Int) ≤ (j : Int) + 1 := by omega
          obtain rfl : V = .tuple #[.string T, .int .i64 ((j : Int) + 1)] := by
            rw [← HV.out]
            rw [List.drop_eq_nil_of_le (show l.length ≤ j + 1 by have := HLs.out; omega)] at hQd
            rw [hQd.stop1]
            show Value.tuple #[.string ⟨acc.toArray⟩, .int .i64 ((k + 1 + (j - (k + 1) + 1) : Nat) : Int)] = _
            rw [← hT.out, show ((k + 1 + (j - (k + 1) + 1) : Nat) : Int) = (j : Int) + 1 from by omega]
          clear hdrop hQd hld hTs1
          go_wp2
          go_ret2
          exact ⟨rfl, rfl⟩
      · have d1 : ((d.toNat : Int) != (c'.toNat : Int)) = true := by rw [bne, byte_ne hdc rfl]; rfl
        have HN : Hid (QAt c' q (acc ++ [d]) (j + 1 - (k + 1)) (l.drop (j + 1))) := by
          have := hQd.byte hdc
          show QAt _ _ _ _ _
          rw [show j + 1 - (k + 1) = j - (k + 1) + 1 from by omega]
          exact this
        have hsz : (T ++ ⟨#[d]⟩ : ByteArray).size + (k + 1) ≤ j + 1 := by omega
        clear hdrop hQd hld hTs1
        go_wp2
        go_round
        case rel => exact ⟨j + 1, _, acc ++ [d], by go_num, rfl, by omega, by omega, hsz, HT1.out, HN.out⟩
        case measure => simp [intOf]; omega
    · have hji : (s.size : Int) ≤ (j : Int) := by omega
      obtain rfl : V = .tuple #[.string ⟨#[]⟩, .int .i64 (-1)] := by
        rw [← HV.out]
        have := hQ.out
        rw [List.drop_eq_nil_of_le (show l.length ≤ j by have := HLs.out; omega)] at this
        rw [this.nil]
        rfl
      go_wp2
      go_ret2
      exact ⟨rfl, rfl⟩
end Go.Proofs.Ytilfbnfejnjaeaa
