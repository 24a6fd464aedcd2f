/- The walks of Tokens and IsWord of the package lex. -/
import Derived.Test.YtilfbnfejnjaeaaLnext
namespace Go.Proofs.Ytilfbnfejnjaeaa
open Go.RowKit

/-- A token's cells. -/
def tkv (t : Tk) : List Value := [.int .i64 (t.kind : Int), .string ⟨t.text.toArray⟩, .int .i64 (t.n : Int), .int .i64 (t.at_ : Int)]
def tcs : List Tk → List Value
  | [] => []
  | t :: ts => tkv t ++ tcs ts
theorem tcs_length : ∀ ts : List Tk, (tcs ts).length = ts.length * 4
  | [] => rfl
  | t :: ts => by rw [tcs, List.length_append, tcs_length ts, List.length_cons]; simp [tkv]; omega
theorem tcs_append : ∀ ts us : List Tk, tcs (ts ++ us) = tcs ts ++ tcs us
  | [], us => rfl
  | t :: ts, us => by rw [List.cons_append, tcs, tcs_append ts us, tcs, List.append_assoc]
theorem tcs_one (t : Tk) : tcs [t] = tkv t := by simp [tcs]
theorem tkv_one (t : Tk) : ∀ u ∈ tkv t, u.oneCell' = true := by
  intro u hu
  simp [tkv] at hu
  rcases hu with rfl | rfl | rfl | rfl <;> rfl
theorem tcs_ones : ∀ ts : List Tk, ∀ u ∈ tcs ts, u.oneCell' = true
  | [], u, hu => by cases hu
  | t :: ts, u, hu => by
    rw [tcs] at hu
    rcases List.mem_append.1 hu with hu | hu
    · exact tkv_one t u hu
    · exact tcs_ones ts u hu
theorem el_tok : El Try.prog 56 60 (.agg #[.int .i64 0, .string ⟨#[]⟩, .int .i64 0, .int .i64 0]) 4 40 := ⟨Try.underlying56, by kernel_rfl, rfl, by decide⟩
/-- What Tokens gives. -/
def TokPost (w : World) (r : Except Nat (List Tk)) (e : Ending) (w' : World) : Prop :=
  Below w.heap.size w w' ∧
    ((∃ c : Nat, r = .error c ∧ 1 ≤ c ∧ e = .returned (.tuple #[.slice none 0 0, .int .i64 (c : Int)])) ∨
     ∃ ts A cap, r = .ok ts ∧ e = .returned (.tuple #[.slice A ts.length cap, .int .i64 0]) ∧ Rd w' (fun q => w.heap.size ≤ q) A (tcs ts))
/-- The tokens ts have been read, the rest begins at place k. -/
def TAt (l : List UInt8) (ts : List Tk) (k : Nat) : Prop :=
  ∃ f, (l.drop k).length < f ∧ toks (l.length + 1) l 0 = match toks f (l.drop k) k with
    | .error e => .error e
    | .ok us => .ok (ts ++ us)
theorem TAt.start (l : List UInt8) : TAt l [] 0 := ⟨l.length + 1, by simp, by
  rw [List.drop_zero]
  cases toks (l.length + 1) l 0 <;> rfl⟩
theorem TAt.end_ {l : List UInt8} {ts : List Tk} {k : Nat} (h : TAt l ts k) (he : isEnd (l.drop (k + blankLen (l.drop k))) = true) : toks (l.length + 1) l 0 = .ok (ts ++ [⟨0, [], 0, k + blankLen (l.drop k)⟩]) := by
  obtain ⟨f, hf, h⟩ := h
  rw [h]
  cases f with
  | zero => omega
  | succ f =>
    rw [toks_step, List.drop_drop, if_pos he]
theorem TAt.err {l : List UInt8} {ts : List Tk} {k c : Nat} (h : TAt l ts k) (he : isEnd (l.drop (k + blankLen (l.drop k))) = false) (ht : tok1 (l.drop (k + blankLen (l.drop k))) (k + blankLen (l.drop k)) = .error c) : toks (l.length + 1) l 0 = .error c := by
  obtain ⟨f, hf, h⟩ := h
  rw [h]
  cases f with
  | zero => omega
  | succ f =>
    rw [toks_step, List.drop_drop, he, ht]
    rfl
theorem TAt.next {l : List UInt8} {ts : List Tk} {k : Nat} {p : Tk × Nat} (h : TAt l ts k) (he : isEnd (l.drop (k + blankLen (l.drop k))) = false) (ht : tok1 (l.drop (k + blankLen (l.drop k))) (k + blankLen (l.drop k)) = .ok p) : TAt l (ts ++ [p.1]) (k + blankLen (l.drop k) + p.2) := by
  obtain ⟨f, hf, h⟩ := h
  have hp := tok1_len ht
  cases f with
  | zero => omega
  | succ f =>
    refine ⟨f, ?_, ?_⟩
    · rw [List.length_drop] at hp hf ⊢
      omega
    · rw [h, toks_step, List.drop_drop, he, ht]
      simp only [Bool.false_eq_true, if_false, List.drop_drop]
      cases toks f (l.drop (k + blankLen (l.drop k) + p.2)) (k + blankLen (l.drop k) + p.2) with
      | error e => rfl
      | ok us => simp
theorem end_off {l : List UInt8} {k : Nat} (h : isEnd (l.drop k) = false) : k < l.length := by
  rcases Nat.lt_or_ge k l.length with h' | h'
  · exact h'
  · rw [List.drop_eq_nil_of_le h'] at h
    cases h
theorem grown_below {w w' : World} {b B : Nat} (h : w.grownBy w' (some b)) (hB : B ≤ b) (hs : B ≤ w.heap.size) : Below B w w' :=
  ⟨h.os, h.tape, h.output, h.size, fun i hi => h.block i (by omega) (fun e => by have := Option.some.inj e; omega)⟩
theorem own_off {w w' : World} {B n b : Nat} {e : TypeId} {size : Nat} {v : Value} {xs : List Value} (h : w.ownsRow B e size v n xs) (hg : w.grownBy w' (some b)) (hb : b < B) : w'.ownsRow B e size v n xs :=
  h.kept hg (by
    cases hv : v.ownBlock with
    | none => exact .inl rfl
    | some q => exact .inr (fun e => by have := (h.lt q hv).1; have := Option.some.inj e; omega))
theorem lx_new (w : World) (s : ByteArray) : LX (w.alloc (.cells #[.string s, .int .i64 0, .int .i64 0, .string ⟨#[]⟩, .int .i64 0, .int .i64 0] 105)) w.heap.size s 0 ⟨0, [], 0, 0⟩ := heap_alloc_new w _
set_option maxHeartbeats 2000000 in
theorem tokens_any (s : ByteArray) (w : World) (hs : (s.size : Int) ≤ 140737488355328) :
    Calls Try.prog 32 #[.string s] w (TokPost w (tokens s.data.toList)) := by
  obtain ⟨l, hl⟩ : ∃ l, s.data.toList = l := ⟨_, rfl⟩
  have hLs : l.length = s.size := by rw [← hl]; exact str_len s
  rw [hl]
  by_cases hlong : 1024 < s.size
  · have HT : Hid (tokens l = .error 19) := by
      show _ = _
      unfold tokens
      rw [if_pos (by omega)]
    have hlo : (1024 : Int) < (s.size : Int) := by omega
    rw [HT.out]
    clear hl hLs
    go_enter Try.func32, Try.ntmps32
    go_wp2
    go_ret2
    exact ⟨Below.refl _ _, .inl ⟨19, rfl, by omega, rfl⟩⟩
  · obtain ⟨T, hT⟩ : ∃ T, toks (l.length + 1) l 0 = T := ⟨_, rfl⟩
    have HT0 : Hid (tokens l = T) := by
      show _ = _
      unfold tokens
      rw [if_neg (by omega), hT]
    rw [HT0.out]
    have HT := Lib.hid hT
    have hlo : (s.size : Int) ≤ 1024 := by omega
    have HLs := Lib.hid hLs
    have CB : Hid (∀ (W : World) (k : Nat) (t : Tk), k ≤ s.size → LX W w.heap.size s k t → Calls Try.prog 58 #[.pointer (some ⟨w.heap.size, 0, none⟩)] W fun e w' => e = .returned (.bool (!isEnd (l.drop (k + blankLen (l.drop k))))) ∧ LX w' w.heap.size s (k + blankLen (l.drop k)) t ∧ W.grownBy w' (some w.heap.size)) := fun W k t h1 h2 => by
      have := blanks_any w.heap.size k s t W hs h1 h2
      rw [hl, List.drop_drop] at this
      exact this
    have CN : Hid (∀ (W : World) (k : Nat) (t : Tk), k < s.size → LX W w.heap.size s k t → Calls Try.prog 59 #[.pointer (some ⟨w.heap.size, 0, none⟩)] W (NextPost W w.heap.size k s)) := fun W k t h1 h2 => next_any w.heap.size k s t W hs h1 h2
    have HL := Lib.hid hl
    clear hl hLs hlong hT
    go_enter Try.func32, Try.ntmps32
    go_wp2
    go_loopw [5] (fun v wr => ∃ k ts A cap t, v = .slice A ts.length cap ∧ k ≤ s.size ∧ ts.length ≤ k ∧ Hid (wr.ownsRow (w.heap.size + 1) 60 4 (.slice A ts.length cap) ts.length (tcs ts)) ∧ Hid (LX wr w.heap.size s k t) ∧ Hid (TAt l ts k) ∧ Hid (Below w.heap.size w wr) ∧ Hid (w.heap.size + 1 ≤ wr.heap.size)) (fun _ wr => s.size - atOf wr w.heap.size)
    case atStart =>
      exact ⟨0, [], none, 0, ⟨0, [], 0, 0⟩, rfl, Nat.zero_le _, Nat.zero_le _, World.ownsRow_nil _ _ _ _, lx_new w s, TAt.start l, (Below.refl _ _).alloc (Nat.le_refl _) _, by show _ ≤ _; simp⟩
    case round =>
      obtain ⟨k, ts, A, cap, t, rfl, hk, htk, hO, hX, hT, hB, hH⟩ := hrel
      obtain ⟨K, hK⟩ : ∃ K, k + blankLen (l.drop k) = K := ⟨_, rfl⟩
      have hKs : K ≤ s.size := by
        have := blankLen_le (l.drop k)
        rw [List.length_drop] at this
        have := HLs.out
        omega
      have hkK : k ≤ K := by omega
      cases he : isEnd (l.drop K) with
      | true =>
        have HR : Hid (T = .ok (ts ++ [⟨0, [], 0, K⟩])) := by
          have := hT.out.end_ (by rw [hK]; exact he)
          rw [HT.out, hK] at this
          exact this
        have CB' : Hid (Calls Try.prog 58 #[.pointer (some ⟨w.heap.size, 0, none⟩)] wr fun e w' => e = .returned (.bool false) ∧ LX w' w.heap.size s K t ∧ wr.grownBy w' (some w.heap.size)) := by
          have := CB.out wr k t hk hX.out
          rw [hK, he] at this
          exact this
        clear he hK CB
        go_wp2_with (first
          | (go_at_call 58; refine CB'.out.mono ?_; rintro e w1 ⟨rfl, hx, hg⟩; obtain ⟨c0, c1, _⟩ := hx.cell; have X1 := Lib.hid hx; have B1 := Lib.hid (hB.out.trans (grown_below hg (Nat.le_refl _) (by have := hH.out; omega))); have O1 := Lib.hid (own_off hO.out hg (by omega)); have H1 := Lib.hid (Nat.le_trans hH.out hg.size); clear hx hg)
          | (at_builtin; go_must (refine wpList_app el_tok rfl (.tmp 30) (.tmp 37) rfl (w.heap.size + 1) _ ts.length (tcs ts) (fun _ => True) _ 1 1 (tkv ⟨0, [], 0, K⟩) rfl rfl (O1.out.alloc _) rfl (Rd.new _ _ _ trivial) (tkv_one _) (by simp only [maxLen]; omega) (by omega) (by simp; have := H1.out; omega) ?_; intro v2 w2 hown2 hg2 hat2 hz2; obtain ⟨A2, c2, rfl, _⟩ := own_form hown2; have O2 := Lib.hid hown2; have B2 := Lib.hid ((B1.out.alloc B1.out.size _).grown hg2 (by have := B1.out.size; simp; omega) (fun q hq => by have := (O1.out.lt q hq).1; omega)); clear hown2 hg2 hat2 hz2)))
        go_ret2
        refine ⟨B2.out, .inr ⟨ts ++ [⟨0, [], 0, K⟩], A2, c2, HR.out, ?_, ?_⟩⟩
        · rw [List.length_append]; rfl
        · rw [tcs_append, tcs_one]
          exact Rd.of_own O2.out (fun i hi _ => by omega)
      | false =>
        have hKl := end_off he
        have hKs2 : K < s.size := by have := HLs.out; omega
        have CB' : Hid (Calls Try.prog 58 #[.pointer (some ⟨w.heap.size, 0, none⟩)] wr fun e w' => e = .returned (.bool true) ∧ LX w' w.heap.size s K t ∧ wr.grownBy w' (some w.heap.size)) := by
          have := CB.out wr k t hk hX.out
          rw [hK, he] at this
          exact this
        cases ht : tok1 (l.drop K) K with
        | error c =>
          have HR : Hid (T = .error c) := by
            have := hT.out.err (by rw [hK]; exact he) (by rw [hK]; exact ht)
            rw [HT.out] at this
            exact this
          have CN' : Hid (∀ W : World, LX W w.heap.size s K t → Calls Try.prog 59 #[.pointer (some ⟨w.heap.size, 0, none⟩)] W fun e w' => e = .returned (.int .i64 (c : Int)) ∧ 1 ≤ c ∧ W.grownBy w' (some w.heap.size)) := fun W hW => by
            refine (CN.out W K t hKs2 hW).mono fun e w' ⟨h1, h2⟩ => ?_
            rw [HL.out, ht] at h2
            rcases h2 with ⟨c', h2, h3, h4⟩ | ⟨p, h2, _⟩
            · injection h2 with h2
              subst h2
              exact ⟨h4, h3, h1⟩
            · cases h2
          clear he hK hKl ht CB CN
          go_wp2_with (first
            | (go_at_call 58; refine CB'.out.mono ?_; rintro e w1 ⟨rfl, hx, hg⟩; have X1 := Lib.hid hx; have B1 := Lib.hid (hB.out.trans (grown_below hg (Nat.le_refl _) (by have := hH.out; omega))); have H1 := Lib.hid (Nat.le_trans hH.out hg.size); clear hx hg)
            | (go_at_call 59; refine (CN'.out _ X1.out).mono ?_; rintro e w2 ⟨rfl, hc, hg⟩; have d1 : ((c : Int) != 0) = true := bne_iff_ne.2 (by omega); have HC := Lib.hid hc; have B2 := Lib.hid (B1.out.trans (grown_below hg (Nat.le_refl _) (by have := H1.out; omega))); clear hg hc))
          go_ret2
          exact ⟨B2.out, .inl ⟨c, HR.out, HC.out, rfl⟩⟩
        | ok p =>
          have hp := tok1_len ht
          have HR : Hid (TAt l (ts ++ [p.1]) (K + p.2)) := by
            have := hT.out.next (by rw [hK]; exact he) (by rw [hK]; exact ht)
            rw [hK] at this
            exact this
          have CN' : Hid (∀ W : World, LX W w.heap.size s K t → Calls Try.prog 59 #[.pointer (some ⟨w.heap.size, 0, none⟩)] W fun e w' => e = .returned (.int .i64 0) ∧ LX w' w.heap.size s (K + p.2) p.1 ∧ W.grownBy w' (some w.heap.size)) := fun W hW => by
            refine (CN.out W K t hKs2 hW).mono fun e w' ⟨h1, h2⟩ => ?_
            rw [HL.out, ht] at h2
            rcases h2 with ⟨c', h2, _⟩ | ⟨p', h2, h3, h4⟩
            · cases h2
            · injection h2 with h2
              subst h2
              exact ⟨h3, h4, h1⟩
          have HM := Lib.hid hX.out.place
          have hKp : K + p.2 ≤ s.size := by
            have := hp.2.1
            rw [List.length_drop] at this
            have := HLs.out
            omega
          have hp1 := hp.1
          obtain ⟨u, hu⟩ : ∃ u, p.1 = u := ⟨_, rfl⟩
          obtain ⟨n, hn⟩ : ∃ n, p.2 = n := ⟨_, rfl⟩
          rw [hu, hn] at CN' HR
          rw [hn] at hKp hp1
          clear he hK hKl ht CB CN hp hu hn
          go_wp2_with (first
            | (go_at_call 58; refine CB'.out.mono ?_; rintro e w1 ⟨rfl, hx, hg⟩; have X1 := Lib.hid hx; have B1 := Lib.hid (hB.out.trans (grown_below hg (Nat.le_refl _) (by have := hH.out; omega))); have O1 := Lib.hid (own_off hO.out hg (by omega)); have H1 := Lib.hid (Nat.le_trans hH.out hg.size); clear hx hg)
            | (go_at_call 59; refine (CN'.out _ X1.out).mono ?_; rintro e w2 ⟨rfl, hx, hg⟩; obtain ⟨c0, c1, c2, c3, c4, c5⟩ := hx.cell; have X2 := Lib.hid hx; have B2 := Lib.hid (B1.out.trans (grown_below hg (Nat.le_refl _) (by have := H1.out; omega))); have O2 := Lib.hid (own_off O1.out hg (by omega)); have H2 := Lib.hid (Nat.le_trans H1.out hg.size); clear hx hg)
            | (at_builtin; go_must (refine wpList_app el_tok rfl (.tmp 23) (.tmp 28) rfl (w.heap.size + 1) _ ts.length (tcs ts) (fun _ => True) _ 1 1 (tkv u) rfl rfl (O2.out.alloc _) rfl (Rd.new _ _ _ trivial) (tkv_one _) (by simp only [maxLen]; omega) (by omega) (by simp; have := H2.out; omega) ?_; intro v3 w3 hown3 hg3 hat3 hz3; obtain ⟨A3, c3', rfl, _⟩ := own_form hown3; have O3 := Lib.hid hown3; have X3 := Lib.hid ((X2.out.after ((Below.refl _ _).alloc (Nat.le_refl _) _)).grown hg3 (fun e => by have := (O2.out.lt _ e.symm).1; omega)); have H3 := Lib.hid (Nat.le_trans H2.out (Nat.le_trans (show _ ≤ _ by simp) hg3.size)); have B3 := Lib.hid ((B2.out.alloc B2.out.size _).grown hg3 (by have := B2.out.size; simp; omega) (fun q hq => by have := (O2.out.lt q hq).1; omega)); clear hown3 hg3 hat3 hz3)))
          go_round
          case rel =>
            have hlen : (ts ++ [u]).length = ts.length + 1 := by rw [List.length_append]; rfl
            exact ⟨K + n, ts ++ [u], A3, c3', u, by rw [hlen], hKp, by rw [hlen]; omega, by rw [Hid, hlen, tcs_append, tcs_one]; exact O3.out, X3.out, HR.out, B3.out, H3.out⟩
          case measure => rw [X3.out.place, HM.out]; omega
/-- Is the text a word? -/
def isWd (l : List UInt8) : Bool := decide (0 < wordLen l) && decide (wordLen l = l.length)
set_option maxHeartbeats 1000000 in
theorem isword_any (s : ByteArray) (w : World) (hs : (s.size : Int) ≤ 140737488355328) :
    Calls Try.prog 31 #[.string s] w fun e w' => e = .returned (.bool (isWd s.data.toList)) ∧ Below w.heap.size w w' := by
  obtain ⟨l, hl⟩ : ∃ l, s.data.toList = l := ⟨_, rfl⟩
  have hLs : l.length = s.size := by rw [← hl]; exact str_len s
  have CW : Hid (∀ W : World, LX W w.heap.size s 0 ⟨0, [], 0, 0⟩ → Calls Try.prog 57 #[.pointer (some ⟨w.heap.size, 0, none⟩)] W (WordPost W w.heap.size 0 s ⟨0, [], 0, 0⟩ (wordLen l))) := fun W h => by
    have := word_any w.heap.size 0 s ⟨0, [], 0, 0⟩ W hs (Nat.zero_le _) h
    rw [List.drop_zero, hl] at this
    exact this
  rw [hl]
  have HX := Lib.hid (lx_new w s)
  rcases Nat.eq_zero_or_pos (wordLen l) with h0 | h0
  · have HV : Hid (isWd l = false) := by show _ = _; unfold isWd; rw [decide_eq_false (by omega)]; rfl
    have CW' : Hid (∀ W : World, LX W w.heap.size s 0 ⟨0, [], 0, 0⟩ → Calls Try.prog 57 #[.pointer (some ⟨w.heap.size, 0, none⟩)] W fun e w' => e = .returned (.tuple #[.bool false, .int .i64 0]) ∧ W.grownBy w' (some w.heap.size)) := fun W h => (CW.out W h).mono fun e w' ⟨h1, h2⟩ => by
      rcases h2 with ⟨_, h2, _⟩ | ⟨h2, _⟩
      · exact ⟨h2, h1⟩
      · omega
    rw [HV.out]
    clear hl hLs h0 CW
    go_enter Try.func31, Try.ntmps31
    go_wp2_with (go_at_call 57; refine (CW'.out _ HX.out).mono ?_; rintro e w1 ⟨rfl, hg⟩; have B1 := Lib.hid (((Below.refl _ _).alloc (Nat.le_refl _) _).trans (grown_below hg (Nat.le_refl _) (by simp))); clear hg)
    go_ret
    exact ⟨rfl, B1.out⟩
  · obtain ⟨n, hn⟩ : ∃ n, wordLen l = n := ⟨_, rfl⟩
    have HV : Hid (isWd l = decide ((n : Int) = (s.size : Int))) := by
      show _ = _
      unfold isWd
      rw [decide_eq_true h0, Bool.true_and, hn]
      apply decide_eq_decide.2
      omega
    have CW' : Hid (∀ W : World, LX W w.heap.size s 0 ⟨0, [], 0, 0⟩ → Calls Try.prog 57 #[.pointer (some ⟨w.heap.size, 0, none⟩)] W fun e w' => e = .returned (.tuple #[.bool true, .int .i64 0]) ∧ w'.cell? ⟨w.heap.size, 1, none⟩ = some (.int .i64 (n : Int)) ∧ W.grownBy w' (some w.heap.size)) := fun W h => (CW.out W h).mono fun e w' ⟨h1, h2⟩ => by
      rcases h2 with ⟨h2, _⟩ | ⟨_, h2, h3⟩
      · omega
      · have := h3.cell.2.1
        rw [hn, Nat.zero_add] at this
        exact ⟨h2, this, h1⟩
    rw [HV.out]
    clear hl hLs h0 CW hn
    go_enter Try.func31, Try.ntmps31
    go_wp2_with (go_at_call 57; refine (CW'.out _ HX.out).mono ?_; rintro e w1 ⟨rfl, c1, hg⟩; have B1 := Lib.hid (((Below.refl _ _).alloc (Nat.le_refl _) _).trans (grown_below hg (Nat.le_refl _) (by simp))); clear hg)
    go_ret
    exact ⟨ret_bool (by first | rfl | simp), B1.out⟩
end Go.Proofs.Ytilfbnfejnjaeaa
