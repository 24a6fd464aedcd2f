/- The walk of Tokens of the reference of the package lex. -/
import Derived.Test.YtilfbnfejnjaeaaRl4
import Derived.Test.YtilfbnfejnjaeaaLtoks
namespace Go.Proofs.Ytilfbnfejnjaeaa
open Go.RowKit

theorem el_rtok : El Try.prog 61 65 (.agg #[.int .i64 0, .string ⟨#[]⟩, .int .i64 0, .int .i64 0]) 4 40 := ⟨Try.underlying61, by kernel_rfl, rfl, by decide⟩
theorem rd_new2 (w : World) (o : Obj) (cs : Array Value) (t : TypeId) : Rd ((w.alloc o).alloc (.cells cs t)) (fun _ => True) (some ⟨w.heap.size + 1, 0, none⟩) cs.toList := by
  have := Rd.new (p := fun _ => True) (w.alloc o) cs t trivial
  rw [World.size_alloc] at this
  exact this
set_option maxHeartbeats 4000000 in
theorem rtokens_any (s : ByteArray) (w : World) (hs : (s.size : Int) ≤ 140737488355328) :
    Calls Try.prog 34 #[.string s] w (TokPost w (tokens s.data.toList)) := by
  obtain ⟨l, hl⟩ : ∃ l, s.data.toList = l := ⟨_, rfl⟩
  have hLs : l.length = s.size := by rw [← hl]; exact str_len s
  rw [hl]
  by_cases hlong : 1024 < s.size
  · have HT : Hid (tokens l = .error 19) := by
      show _ = _
      unfold tokens
      rw [if_pos (by omega)]
    have hlo : (1024 : Int) < (s.size : Int) := by omega
    rw [HT.out]
    clear hl hLs
    go_enter Try.func34, Try.ntmps34
    go_wp2
    go_ret2
    exact ⟨Below.refl _ _, .inl ⟨19, rfl, by omega, rfl⟩⟩
  · obtain ⟨T, hT⟩ : ∃ T, toks (l.length + 1) l 0 = T := ⟨_, rfl⟩
    have HT0 : Hid (tokens l = T) := by
      show _ = _
      unfold tokens
      rw [if_neg (by omega), hT]
    rw [HT0.out]
    have HT := Lib.hid hT
    have hlo : (s.size : Int) ≤ 1024 := by omega
    have HLs := Lib.hid hLs
    have HA : Hid (∀ j (h : j < s.size), ∃ c : UInt8, s[j] = c ∧ l[j]? = some c) := by subst hl; exact fun j h => str_at s h
    have CN : Hid (∀ (W : World) (k : Nat), k < s.size → Calls Try.prog 61 #[.string s, .int .i64 (k : Int)] W (RnextPost W s k)) := fun W k h1 => rnext_any s k W hs h1
    have HL := Lib.hid hl
    clear hl hLs hlong hT
    go_enter Try.func34, Try.ntmps34
    go_wp2
    go_loopw [4, 5] (fun v u wr => ∃ (k : Nat) (ts : List Tk) (A : Option Addr) (cap : Nat), v = .slice A ts.length cap ∧ u = .int .i64 (k : Int) ∧ k ≤ s.size ∧ ts.length ≤ k ∧ Hid (wr.ownsRow w.heap.size 65 4 (.slice A ts.length cap) ts.length (tcs ts)) ∧ Hid (TAt l ts k) ∧ Hid (Below w.heap.size w wr)) (fun _ u _ => s.size - (intOf u).toNat)
    case atStart =>
      exact ⟨0, [], none, 0, rfl, rfl, Nat.zero_le _, Nat.zero_le _, World.ownsRow_nil _ _ _ _, TAt.start l, Below.refl _ _⟩
    case round =>
      obtain ⟨k, ts, A, cap, rfl, rfl, hk, htk, hO, hT, hB⟩ := hrel
      obtain ⟨K, hK⟩ : ∃ K, k + blankLen (l.drop k) = K := ⟨_, rfl⟩
      have HK := Lib.hid hK
      have hKs : K ≤ s.size := by
        have := blankLen_le (l.drop k)
        rw [List.length_drop] at this
        have := HLs.out
        omega
      have hkK : k ≤ K := by omega
      clear hK
      go_wp2
      go_loop [5] (fun u => ∃ j : Nat, u = .int .i64 (j : Int) ∧ k ≤ j ∧ j ≤ s.size ∧ Hid (K = j + blankLen (l.drop j))) (fun u => s.size - (intOf u).toNat)
      case atStart => exact ⟨k, rfl, Nat.le_refl _, hk, HK.out.symm⟩
      case round =>
        obtain ⟨j, rfl, hkj, hj, hR⟩ := hrel
        by_cases hlt : j < s.size
        · have hji : (j : Int) < (s.size : Int) := by omega
          obtain ⟨c, hc, hlc⟩ := HA.out j hlt
          have hne : ((j : Int) == (s.size : Int)) = false := beq_eq_false_iff_ne.2 (by omega)
          by_cases hb : isBl c = true
          · have HN : Hid (K = j + 1 + blankLen (l.drop (j + 1))) := by
              show _ = _
              rw [hR.out, blankLen_at hlc, if_pos hb]
              omega
            have hcase : (((c.toNat : Int) == 32) = true) ∨ (((c.toNat : Int) == 32) = false ∧ ((c.toNat : Int) == 9) = true) := by
              unfold isBl at hb
              simp only [Bool.or_eq_true, beq_iff_eq] at hb
              rcases hb with h | h
              · exact .inl (by rw [h]; rfl)
              · exact .inr ⟨by rw [h]; rfl, by rw [h]; rfl⟩
            clear hb hlc
            rcases hcase with d1 | ⟨d1, d2⟩
            all_goals
              go_wp2
              go_round
              case rel => exact ⟨j + 1, by go_num, by omega, by omega, HN.out⟩
              case measure => simp [intOf]; omega
          · obtain rfl : K = j := by
              rw [hR.out, blankLen_at hlc, if_neg hb]
              rfl
            have hbl : c ≠ 32 ∧ c ≠ 9 := by
              unfold isBl at hb
              simpa using hb
            have d1 : ((c.toNat : Int) == 32) = false := byte_ne hbl.1 (by decide)
            have d2 : ((c.toNat : Int) == 9) = false := byte_ne hbl.2 (by decide)
            have hend : isEnd (l.drop K) = (c == 59) := by
              rw [List.drop_eq_getElem_cons (lt_at hlc), (List.getElem_eq_iff (lt_at hlc)).2 hlc]
              rfl
            clear hb hlc hbl
            by_cases h59 : c = 59
            · have d3 : ((c.toNat : Int) == 59) = true := by rw [h59]; rfl
              have HR : Hid (T = .ok (ts ++ [⟨0, [], 0, K⟩])) := by
                have := hT.out.end_ (by rw [HK.out, hend, h59]; rfl)
                rw [HT.out, HK.out] at this
                exact this
              clear hend h59
              go_wp2_with (at_builtin; go_must (refine wpList_app el_rtok rfl (.tmp 40) (.tmp 43) rfl w.heap.size _ ts.length (tcs ts) (fun _ => True) _ 1 1 (tkv ⟨0, [], 0, K⟩) rfl rfl (hO.out.alloc _) rfl (Rd.new _ _ _ trivial) (tkv_one _) (by simp only [maxLen]; omega) (by omega) (by simp; have := hB.out.size; omega) ?_; intro v2 w2 hown2 hg2 hat2 hz2; obtain ⟨A2, c2, rfl, _⟩ := own_form hown2; have O2 := Lib.hid hown2; have B2 := Lib.hid ((hB.out.alloc hB.out.size _).grown hg2 (by have := hB.out.size; simp; omega) (fun q hq => (hO.out.lt q hq).1)); clear hown2 hg2 hat2 hz2))
              go_ret2
              refine ⟨B2.out, .inr ⟨ts ++ [⟨0, [], 0, K⟩], A2, c2, HR.out, ?_, ?_⟩⟩
              · rw [List.length_append]; rfl
              · rw [tcs_append, tcs_one]
                exact Rd.of_own O2.out (fun i hi _ => hi)
            · have d3 : ((c.toNat : Int) == 59) = false := byte_ne h59 (by decide)
              have he : isEnd (l.drop K) = false := by rw [hend]; simpa using h59
              clear hend h59
              cases ht : tok1 (l.drop K) K with
              | error e0 =>
                have HR : Hid (T = .error e0) := by
                  have := hT.out.err (by rw [HK.out]; exact he) (by rw [HK.out]; exact ht)
                  rw [HT.out] at this
                  exact this
                have CN' : Hid (∀ W : World, Calls Try.prog 61 #[.string s, .int .i64 (K : Int)] W fun e w' => (∃ t : Tk, e = .returned (.tuple #[.agg #[.int .i64 (t.kind : Int), .string ⟨t.text.toArray⟩, .int .i64 (t.n : Int), .int .i64 (t.at_ : Int)], .int .i64 0, .int .i64 (e0 : Int)])) ∧ 1 ≤ e0 ∧ Below W.heap.size W w') := fun W => by
                  refine (CN.out W K hlt).mono fun e w' ⟨h1, h2⟩ => ?_
                  rw [HL.out, ht] at h2
                  rcases h2 with ⟨c', t', h2, h3, h4⟩ | ⟨p, h2, _⟩
                  · injection h2 with h2
                    subst h2
                    exact ⟨⟨t', h4⟩, h3, h1⟩
                  · cases h2
                clear he ht CN
                go_wp2_with (go_at_call 61; refine (CN'.out _).mono ?_; rintro e w2 ⟨⟨t', rfl⟩, hc1, hb⟩; have d4 : ((e0 : Int) != 0) = true := bne_iff_ne.2 (by omega); have HC := Lib.hid hc1; have B2 := Lib.hid (hB.out.trans (hb.mono hB.out.size)); clear hb hc1)
                go_ret2
                exact ⟨B2.out.alloc B2.out.size _, .inl ⟨e0, HR.out, HC.out, rfl⟩⟩
              | ok p =>
                have hp := tok1_len ht
                have HR : Hid (TAt l (ts ++ [p.1]) (K + p.2)) := by
                  have := hT.out.next (by rw [HK.out]; exact he) (by rw [HK.out]; exact ht)
                  rw [HK.out] at this
                  exact this
                have CN' : Hid (∀ W : World, Calls Try.prog 61 #[.string s, .int .i64 (K : Int)] W fun e w' => e = .returned (.tuple #[.agg #[.int .i64 (p.1.kind : Int), .string ⟨p.1.text.toArray⟩, .int .i64 (p.1.n : Int), .int .i64 (p.1.at_ : Int)], .int .i64 ((K + p.2 : Nat) : Int), .int .i64 0]) ∧ Below W.heap.size W w') := fun W => by
                  refine (CN.out W K hlt).mono fun e w' ⟨h1, h2⟩ => ?_
                  rw [HL.out, ht] at h2
                  rcases h2 with ⟨c', t', h2, _⟩ | ⟨p', h2, h3⟩
                  · cases h2
                  · injection h2 with h2
                    subst h2
                    exact ⟨h3, h1⟩
                have hKp : K + p.2 ≤ s.size := by
                  have := hp.2.1
                  rw [List.length_drop] at this
                  have := HLs.out
                  omega
                have hp1 := hp.1
                obtain ⟨u, hu⟩ : ∃ u, p.1 = u := ⟨_, rfl⟩
                obtain ⟨N, hN⟩ : ∃ N, K + p.2 = N := ⟨_, rfl⟩
                have hKN : K < N := by omega
                rw [hN] at hKp
                rw [hu, hN] at CN' HR
                clear he ht CN hp hu hN hp1
                go_wp2_with (first
                  | (go_at_call 61; refine (CN'.out _).mono ?_; rintro e w2 ⟨rfl, hb⟩; have B2 := Lib.hid (hB.out.trans (hb.mono hB.out.size)); have O2 := Lib.hid (own_over hO.out hb); clear hb)
                  | (at_builtin; go_must (refine wpList_app el_rtok rfl (.tmp 55) (.tmp 57) rfl w.heap.size _ ts.length (tcs ts) (fun _ => True) _ 1 1 (tkv u) rfl rfl ((O2.out.alloc _).alloc _) rfl (rd_new2 _ _ _ _) (tkv_one _) (by simp only [maxLen]; omega) (by omega) (by simp; have := B2.out.size; omega) ?_; intro v3 w3 hown3 hg3 hat3 hz3; obtain ⟨A3, c3', rfl, _⟩ := own_form hown3; have O3 := Lib.hid hown3; have B3 := Lib.hid (((B2.out.alloc B2.out.size _).alloc (by have := B2.out.size; simp; omega) _).grown hg3 (by have := B2.out.size; simp; omega) (fun q hq => (O2.out.lt q hq).1)); clear hown3 hg3 hat3 hz3)))
                go_round
                case rel =>
                  have hlen : (ts ++ [u]).length = ts.length + 1 := by rw [List.length_append]; rfl
                  exact ⟨N, ts ++ [u], A3, c3', by rw [hlen], rfl, hKp, by rw [hlen]; omega, by rw [Hid, hlen, tcs_append, tcs_one]; exact O3.out, HR.out, B3.out⟩
                case measure => simp [intOf]; omega
        · have hji : (s.size : Int) ≤ (j : Int) := by omega
          have heq : ((j : Int) == (s.size : Int)) = true := beq_iff_eq.2 (by omega)
          obtain rfl : K = j := by
            rw [hR.out, blankLen_off (by have := HLs.out; omega)]
            rfl
          have HR : Hid (T = .ok (ts ++ [⟨0, [], 0, K⟩])) := by
            have := hT.out.end_ (by rw [HK.out, List.drop_eq_nil_of_le (by have := HLs.out; omega)]; rfl)
            rw [HT.out, HK.out] at this
            exact this
          go_wp2_with (at_builtin; go_must (refine wpList_app el_rtok rfl (.tmp 40) (.tmp 43) rfl w.heap.size _ ts.length (tcs ts) (fun _ => True) _ 1 1 (tkv ⟨0, [], 0, K⟩) rfl rfl (hO.out.alloc _) rfl (Rd.new _ _ _ trivial) (tkv_one _) (by simp only [maxLen]; omega) (by omega) (by simp; have := hB.out.size; omega) ?_; intro v2 w2 hown2 hg2 hat2 hz2; obtain ⟨A2, c2, rfl, _⟩ := own_form hown2; have O2 := Lib.hid hown2; have B2 := Lib.hid ((hB.out.alloc hB.out.size _).grown hg2 (by have := hB.out.size; simp; omega) (fun q hq => (hO.out.lt q hq).1)); clear hown2 hg2 hat2 hz2))
          go_ret2
          refine ⟨B2.out, .inr ⟨ts ++ [⟨0, [], 0, K⟩], A2, c2, HR.out, ?_, ?_⟩⟩
          · rw [List.length_append]; rfl
          · rw [tcs_append, tcs_one]
            exact Rd.of_own O2.out (fun i hi _ => hi)
end Go.Proofs.Ytilfbnfejnjaeaa
