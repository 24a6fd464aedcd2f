/- The walk of number of the lexer. -/
import Derived.Test.YtilfbnfejnjaeaaLword
import Derived.Test.YtilfbnfejnjaeaaPnum
namespace Go.Proofs.Ytilfbnfejnjaeaa
open Go.RowKit

/-- What number gives: whether a number begins here, its code. -/
def NumPost (w : World) (b k : Nat) (s : ByteArray) (t : Tk) (e : Ending) (w' : World) : Prop :=
  w.grownBy w' (some b) ∧
    ((isNum (s.data.toList.drop k) = false ∧ e = .returned (.tuple #[.bool false, .int .i64 0]) ∧ LX w' b s k t) ∨
     (isNum (s.data.toList.drop k) = true ∧ ∃ m, m = 1 + runLen ((s.data.toList.drop k).drop 1) ∧
       ((pval ((s.data.toList.drop k).take m) = none ∧ e = .returned (.tuple #[.bool true, .int .i64 3]) ∧ ∃ k' t', LX w' b s k' t') ∨
        ∃ v, pval ((s.data.toList.drop k).take m) = some v ∧ e = .returned (.tuple #[.bool true, .int .i64 0]) ∧ LX w' b s (k + m) ⟨2, [], v, 0⟩)))
theorem isNum_at {l : List UInt8} {k : Nat} {c : UInt8} (h : l[k]? = some c) : isNum (l.drop k) = (isD c || c == 37 || (c == 36 && decide (0 < runLen (l.drop (k + 1))))) := by
  have hj := lt_at h
  rw [List.drop_eq_getElem_cons hj, (List.getElem_eq_iff hj).2 h]
  rfl
theorem pkc_in {l : List UInt8} {k : Nat} (h : pkc l k ≠ 0) : l[k]? = some (pkc l k) := by
  unfold pkc at h ⊢
  cases hl : l[k]? with
  | none => rw [hl] at h; exact absurd rfl h
  | some c => rfl
theorem isNum_off {l : List UInt8} {k : Nat} (h : isD (pkc l k) = false) (h1 : pkc l k ≠ 36) (h2 : pkc l k ≠ 37) : isNum (l.drop k) = false := by
  by_cases h0 : pkc l k = 0
  · unfold pkc at h0
    cases hl : l[k]? with
    | none => rw [List.drop_eq_nil_of_le (List.getElem?_eq_none_iff.1 hl)]; rfl
    | some c =>
      rw [hl] at h0
      have : c = 0 := h0
      rw [isNum_at hl, this]
      rfl
  · rw [isNum_at (pkc_in h0), h]
    simp [h1, h2]
theorem isD_in {l : List UInt8} {k : Nat} {c : UInt8} (h : pkc l k = c) (hc : isD c = true ∨ c = 36 ∨ c = 37) : l[k]? = some c := by
  have h0 : pkc l k ≠ 0 := by
    intro h0
    rw [← h, h0] at hc
    revert hc
    decide
  rw [← h]
  exact pkc_in h0
theorem num_no (b k : Nat) (s : ByteArray) (t : Tk) (w : World) (hs : (s.size : Int) ≤ 140737488355328) (hk : k ≤ s.size) (h : LX w b s k t) (c : UInt8) (hc : pkc s.data.toList k = c) (hd : isD c = false) (h36 : c ≠ 36) (h37 : c ≠ 37) :
    Calls Try.prog 79 #[.pointer (some ⟨b, 0, none⟩)] w (NumPost w b k s t) := by
  have HN : Hid (isNum (s.data.toList.drop k) = false) := isNum_off (by rw [hc]; exact hd) (by rw [hc]; exact h36) (by rw [hc]; exact h37)
  have CP : Hid (∀ W : World, W.heap = w.heap → Calls Try.prog 77 #[.pointer (some ⟨b, 0, none⟩)] W fun e w' => e = .returned (.int .u8 (c.toNat : Int)) ∧ ∃ m, w' = W.drewN m) := fun W hW => by
    subst hc
    exact peek_any b 0 k s W hs hk (h.heap hW).line.1 (h.heap hW).line.2
  have CD : Hid (∀ W : World, Calls Try.prog 96 #[.int .u8 (c.toNat : Int)] W fun e w' => e = .returned (.bool false) ∧ W = w') := fun W => by
    have := digit_lex c W
    rw [hd] at this
    exact this
  have d1 : ((c.toNat : Int) != 36) = true := by rw [bne, byte_ne h36 (z := 36) (by decide)]; rfl
  have d2 : ((c.toNat : Int) != 37) = true := by rw [bne, byte_ne h37 (z := 37) (by decide)]; rfl
  obtain ⟨c0, c1⟩ := h.line
  have H := Lib.hid h
  clear h hc hd h36 h37
  go_enter Try.func79, Try.ntmps79
  go_wp2
  go_quiet ((go_at_call 77; exact Calls.quiet_of (CP.out _ rfl)))
  go_wp2_with (go_at_call 96; refine (CD.out _).mono ?_; rintro e w2 ⟨rfl, rfl⟩)
  go_ret2
  exact ⟨grownBy_drewN (grown_refl w b) _, .inl ⟨HN.out, rfl, H.out⟩⟩
set_option maxHeartbeats 2000000 in
theorem num_yes (b k : Nat) (s : ByteArray) (t : Tk) (w : World) (hs : (s.size : Int) ≤ 140737488355328) (h : LX w b s k t) (c : UInt8) (hc : pkc s.data.toList k = c) (hd : isD c = true ∨ c = 36 ∨ c = 37) :
    Calls Try.prog 79 #[.pointer (some ⟨b, 0, none⟩)] w (NumPost w b k s t) := by
  have hin := isD_in hc hd
  have hlt := lt_at hin
  obtain ⟨l, hl⟩ : ∃ l, s.data.toList = l := ⟨_, rfl⟩
  have hLs : l.length = s.size := by rw [← hl]; exact str_len s
  rw [hl] at hlt hin
  have hki : (k : Int) < (s.size : Int) := by omega
  have CP : Hid (∀ W : World, W.heap = w.heap → Calls Try.prog 77 #[.pointer (some ⟨b, 0, none⟩)] W fun e w' => e = .returned (.int .u8 (c.toNat : Int)) ∧ ∃ m, w' = W.drewN m) := fun W hW => by
    subst hc
    exact peek_any b 0 k s W hs (by omega) (h.heap hW).line.1 (h.heap hW).line.2
  have CD : Hid (∀ W : World, Calls Try.prog 96 #[.int .u8 (c.toNat : Int)] W fun e w' => e = .returned (.bool (isD c)) ∧ W = w') := fun W => digit_lex c W
  obtain ⟨r, hr⟩ : ∃ r, runLen (l.drop (k + 1)) = r := ⟨_, rfl⟩
  have hrle := runLen_le (l.drop (k + 1))
  rw [List.length_drop, hr] at hrle
  obtain ⟨S, hS⟩ : ∃ S, s.extract (k + 1) (k + 1 + r) = S := ⟨_, rfl⟩
  have hSs : S.size = r := by rw [← str_len, ← hS, ext_mid, hl, List.length_take, List.length_drop]; omega
  have hSe : S.toList.isEmpty = decide (r = 0) := by
    rw [str_empty]
    apply decide_eq_decide.2
    rw [← List.length_eq_zero_iff, str_len, hSs]
  obtain ⟨K, hK⟩ : ∃ K, k + 1 + r = K := ⟨_, rfl⟩
  have CR : Hid (∀ W : World, LX W b s (k + 1) t → Calls Try.prog 78 #[.pointer (some ⟨b, 0, none⟩)] W fun e w' => e = .returned (.string S) ∧ LX w' b s K t ∧ W.grownBy w' (some b)) := fun W hW => by
    have := run_any b (k + 1) s t W hs (by omega) hW
    rw [hl, hr, hS, hK] at this
    exact this
  obtain ⟨V, hV⟩ : ∃ V, s.extract k K = V := ⟨_, rfl⟩
  have hVl : V.data.toList = (l.drop k).take (1 + r) := by rw [← hV, ext_mid, hl]; congr 1; omega
  have hVs : (V.size : Int) ≤ 140737488355328 := by rw [← str_len, hVl, List.length_take, List.length_drop]; omega
  have CN : Hid (∀ W : World, Calls Try.prog 97 #[.string V] W fun e w' => e = .returned (dgV (pval ((l.drop k).take (1 + r)))) ∧ Below W.heap.size W w') := fun W => by
    have := parse_num V W hVs
    rw [hVl] at this
    exact this
  obtain ⟨c0, c1⟩ := h.line
  have f1 := h.frozen 1
  have H := Lib.hid h
  have HLs := Lib.hid hl
  have HX : Hid (∀ n, LX ((w.drewN n).setCell ⟨b, 1, none⟩ (.int .i64 ((k : Int) + 1))) b s (k + 1) t) := fun n => LX.to (h.heap (w' := w.drewN n) rfl) (k + 1) rfl
  have HR : Hid (runLen ((l.drop k).drop 1) = r) := by show _ = _; rw [List.drop_drop]; exact hr
  have hisN := isNum_at hin
  rw [hr] at hisN
  have hkr : (K : Int) ≤ (s.size : Int) := by omega
  have hkk : (k : Int) ≤ (K : Int) := by omega
  have HK : Hid (k + (1 + r) = K) := by show _ = _; omega
  have hcase : (isD c = true ∧ ((c.toNat : Int) == 36) = false) ∨ (isD c = false ∧ c = 37) ∨ (isD c = false ∧ c = 36 ∧ r ≠ 0) ∨ (isD c = false ∧ c = 36 ∧ r = 0) := by
    rcases Bool.eq_false_or_eq_true (isD c) with h | h
    · exact .inl ⟨h, byte_ne (d := 36) (fun e => by rw [e] at h; revert h; decide) (by decide)⟩
    · rcases hd with h' | h' | h'
      · rw [h] at h'; cases h'
      · by_cases h0 : r = 0
        · exact .inr (.inr (.inr ⟨h, h', h0⟩))
        · exact .inr (.inr (.inl ⟨h, h', h0⟩))
      · exact .inr (.inl ⟨h, h'⟩)
  clear h hc hd hl hlt hin hr hS hVl hLs hrle hK hSs
  rcases hcase with ⟨h1, h2⟩ | ⟨h1, h2⟩ | ⟨h1, h2, h3⟩ | ⟨h1, h2, h3⟩
  · have HN : Hid (isNum (l.drop k) = true) := by show _ = _; rw [hisN, h1]; rfl
    rw [h1] at CD
    clear h1
    by_cases h0 : r = 0
    · rw [decide_eq_true h0] at hSe
      clear h0
      clear hisN
      cases hp : pval ((l.drop k).take (1 + r)) with
      | none =>
        have HP := Lib.hid hp
        rw [hp] at CN
        clear hp
        have CN' : Hid (∀ W : World, Calls Try.prog 97 #[.string V] W fun e w' => e = .returned (.tuple #[.int .i64 0, .bool false]) ∧ Below W.heap.size W w') := CN
        clear CN
        go_enter Try.func79, Try.ntmps79
        go_wp2
        go_quiet ((go_at_call 77; exact Calls.quiet_of (CP.out _ rfl)))
        go_wp2_with (first
          | (go_at_call 96; refine (CD.out _).mono ?_; rintro e w2 ⟨rfl, rfl⟩)
          | (go_at_call 78; refine (CR.out _ (HX.out _)).mono ?_; rintro e w3 ⟨rfl, hx, hg⟩; obtain ⟨y0, y1⟩ := hx.line; have X3 := Lib.hid hx; have G3 := Lib.hid (grownBy_trans (grown_step (grownBy_drewN (grown_refl w b) _) 1 _) hg); clear hx hg c0 c1))
        go_region_held3 (fun w' => w'.cell? ⟨b, 0, none⟩ = some (.string s) ∧ w'.cell? ⟨b, 1, none⟩ = some (.int .i64 (K : Int))) (go_keep)
          (first
            | (go_at_call 97; refine (CN'.out _).mono ?_; rintro e w9 ⟨rfl, hb⟩; have X9' := (X3.out.heap (by rfl)).after hb; obtain ⟨z0, z1, z2, z3, z4, z5⟩ := X9'.cell; have g2 := X9'.frozen 2; have g3 := X9'.frozen 3; have g4 := X9'.frozen 4; have g5 := X9'.frozen 5; have X9 := Lib.hid X9'; have G9 := Lib.hid (grownBy_trans (grownBy_drewN G3.out 1) (grownBy_below hb (some b))); clear hb X9'))
        all_goals
          go_wp2
          go_ret2
          exact ⟨G9.out, .inr ⟨by rw [HLs.out]; exact HN.out, 1 + r, by rw [HLs.out, HR.out], .inl ⟨by rw [HLs.out]; exact HP.out, rfl, _, _, X9.out⟩⟩⟩
      | some v =>
        have HP := Lib.hid hp
        rw [hp] at CN
        clear hp
        have CN' : Hid (∀ W : World, Calls Try.prog 97 #[.string V] W fun e w' => e = .returned (.tuple #[.int .i64 (v : Int), .bool true]) ∧ Below W.heap.size W w') := CN
        clear CN
        go_enter Try.func79, Try.ntmps79
        go_wp2
        go_quiet ((go_at_call 77; exact Calls.quiet_of (CP.out _ rfl)))
        go_wp2_with (first
          | (go_at_call 96; refine (CD.out _).mono ?_; rintro e w2 ⟨rfl, rfl⟩)
          | (go_at_call 78; refine (CR.out _ (HX.out _)).mono ?_; rintro e w3 ⟨rfl, hx, hg⟩; obtain ⟨y0, y1⟩ := hx.line; have X3 := Lib.hid hx; have G3 := Lib.hid (grownBy_trans (grown_step (grownBy_drewN (grown_refl w b) _) 1 _) hg); clear hx hg c0 c1))
        go_region_held3 (fun w' => w'.cell? ⟨b, 0, none⟩ = some (.string s) ∧ w'.cell? ⟨b, 1, none⟩ = some (.int .i64 (K : Int))) (go_keep)
          (first
            | (go_at_call 97; refine (CN'.out _).mono ?_; rintro e w9 ⟨rfl, hb⟩; have X9' := (X3.out.heap (by rfl)).after hb; obtain ⟨z0, z1, z2, z3, z4, z5⟩ := X9'.cell; have g2 := X9'.frozen 2; have g3 := X9'.frozen 3; have g4 := X9'.frozen 4; have g5 := X9'.frozen 5; have X9 := Lib.hid X9'; have G9 := Lib.hid (grownBy_trans (grownBy_drewN G3.out 1) (grownBy_below hb (some b))); clear hb X9'))
        all_goals
          go_wp2
          go_ret2
          exact ⟨grown_tok G9.out _ _ _ _, .inr ⟨by rw [HLs.out]; exact HN.out, 1 + r, by rw [HLs.out, HR.out], .inr ⟨v, by rw [HLs.out]; exact HP.out, rfl, by rw [HK.out]; exact X9.out.tok ⟨2, _, v, 0⟩ rfl rfl rfl rfl⟩⟩⟩
    · rw [decide_eq_false h0] at hSe
      clear h0
      clear hisN
      cases hp : pval ((l.drop k).take (1 + r)) with
      | none =>
        have HP := Lib.hid hp
        rw [hp] at CN
        clear hp
        have CN' : Hid (∀ W : World, Calls Try.prog 97 #[.string V] W fun e w' => e = .returned (.tuple #[.int .i64 0, .bool false]) ∧ Below W.heap.size W w') := CN
        clear CN
        go_enter Try.func79, Try.ntmps79
        go_wp2
        go_quiet ((go_at_call 77; exact Calls.quiet_of (CP.out _ rfl)))
        go_wp2_with (first
          | (go_at_call 96; refine (CD.out _).mono ?_; rintro e w2 ⟨rfl, rfl⟩)
          | (go_at_call 78; refine (CR.out _ (HX.out _)).mono ?_; rintro e w3 ⟨rfl, hx, hg⟩; obtain ⟨y0, y1⟩ := hx.line; have X3 := Lib.hid hx; have G3 := Lib.hid (grownBy_trans (grown_step (grownBy_drewN (grown_refl w b) _) 1 _) hg); clear hx hg c0 c1))
        go_region_held3 (fun w' => w'.cell? ⟨b, 0, none⟩ = some (.string s) ∧ w'.cell? ⟨b, 1, none⟩ = some (.int .i64 (K : Int))) (go_keep)
          (first
            | (go_at_call 97; refine (CN'.out _).mono ?_; rintro e w9 ⟨rfl, hb⟩; have X9' := (X3.out.heap (by rfl)).after hb; obtain ⟨z0, z1, z2, z3, z4, z5⟩ := X9'.cell; have g2 := X9'.frozen 2; have g3 := X9'.frozen 3; have g4 := X9'.frozen 4; have g5 := X9'.frozen 5; have X9 := Lib.hid X9'; have G9 := Lib.hid (grownBy_trans (grownBy_drewN G3.out 1) (grownBy_below hb (some b))); clear hb X9'))
        all_goals
          go_wp2
          go_ret2
          exact ⟨G9.out, .inr ⟨by rw [HLs.out]; exact HN.out, 1 + r, by rw [HLs.out, HR.out], .inl ⟨by rw [HLs.out]; exact HP.out, rfl, _, _, X9.out⟩⟩⟩
      | some v =>
        have HP := Lib.hid hp
        rw [hp] at CN
        clear hp
        have CN' : Hid (∀ W : World, Calls Try.prog 97 #[.string V] W fun e w' => e = .returned (.tuple #[.int .i64 (v : Int), .bool true]) ∧ Below W.heap.size W w') := CN
        clear CN
        go_enter Try.func79, Try.ntmps79
        go_wp2
        go_quiet ((go_at_call 77; exact Calls.quiet_of (CP.out _ rfl)))
        go_wp2_with (first
          | (go_at_call 96; refine (CD.out _).mono ?_; rintro e w2 ⟨rfl, rfl⟩)
          | (go_at_call 78; refine (CR.out _ (HX.out _)).mono ?_; rintro e w3 ⟨rfl, hx, hg⟩; obtain ⟨y0, y1⟩ := hx.line; have X3 := Lib.hid hx; have G3 := Lib.hid (grownBy_trans (grown_step (grownBy_drewN (grown_refl w b) _) 1 _) hg); clear hx hg c0 c1))
        go_region_held3 (fun w' => w'.cell? ⟨b, 0, none⟩ = some (.string s) ∧ w'.cell? ⟨b, 1, none⟩ = some (.int .i64 (K : Int))) (go_keep)
          (first
            | (go_at_call 97; refine (CN'.out _).mono ?_; rintro e w9 ⟨rfl, hb⟩; have X9' := (X3.out.heap (by rfl)).after hb; obtain ⟨z0, z1, z2, z3, z4, z5⟩ := X9'.cell; have g2 := X9'.frozen 2; have g3 := X9'.frozen 3; have g4 := X9'.frozen 4; have g5 := X9'.frozen 5; have X9 := Lib.hid X9'; have G9 := Lib.hid (grownBy_trans (grownBy_drewN G3.out 1) (grownBy_below hb (some b))); clear hb X9'))
        all_goals
          go_wp2
          go_ret2
          exact ⟨grown_tok G9.out _ _ _ _, .inr ⟨by rw [HLs.out]; exact HN.out, 1 + r, by rw [HLs.out, HR.out], .inr ⟨v, by rw [HLs.out]; exact HP.out, rfl, by rw [HK.out]; exact X9.out.tok ⟨2, _, v, 0⟩ rfl rfl rfl rfl⟩⟩⟩
  · have HN : Hid (isNum (l.drop k) = true) := by show _ = _; rw [hisN, h1, h2]; rfl
    have d1 : ((c.toNat : Int) != 36) = true := by rw [h2]; rfl
    have d2 : ((c.toNat : Int) != 37) = false := by rw [h2]; rfl
    have d3 : ((c.toNat : Int) == 36) = false := by rw [h2]; rfl
    rw [h1] at CD
    clear h1 h2
    by_cases h0 : r = 0
    · rw [decide_eq_true h0] at hSe
      clear h0
      clear hisN
      cases hp : pval ((l.drop k).take (1 + r)) with
      | none =>
        have HP := Lib.hid hp
        rw [hp] at CN
        clear hp
        have CN' : Hid (∀ W : World, Calls Try.prog 97 #[.string V] W fun e w' => e = .returned (.tuple #[.int .i64 0, .bool false]) ∧ Below W.heap.size W w') := CN
        clear CN
        go_enter Try.func79, Try.ntmps79
        go_wp2
        go_quiet ((go_at_call 77; exact Calls.quiet_of (CP.out _ rfl)))
        go_wp2_with (first
          | (go_at_call 96; refine (CD.out _).mono ?_; rintro e w2 ⟨rfl, rfl⟩)
          | (go_at_call 78; refine (CR.out _ (HX.out _)).mono ?_; rintro e w3 ⟨rfl, hx, hg⟩; obtain ⟨y0, y1⟩ := hx.line; have X3 := Lib.hid hx; have G3 := Lib.hid (grownBy_trans (grown_step (grownBy_drewN (grown_refl w b) _) 1 _) hg); clear hx hg c0 c1))
        go_region_held3 (fun w' => w'.cell? ⟨b, 0, none⟩ = some (.string s) ∧ w'.cell? ⟨b, 1, none⟩ = some (.int .i64 (K : Int))) (go_keep)
          (first
            | (go_at_call 97; refine (CN'.out _).mono ?_; rintro e w9 ⟨rfl, hb⟩; have X9' := (X3.out.heap (by rfl)).after hb; obtain ⟨z0, z1, z2, z3, z4, z5⟩ := X9'.cell; have g2 := X9'.frozen 2; have g3 := X9'.frozen 3; have g4 := X9'.frozen 4; have g5 := X9'.frozen 5; have X9 := Lib.hid X9'; have G9 := Lib.hid (grownBy_trans (grownBy_drewN G3.out 1) (grownBy_below hb (some b))); clear hb X9'))
        all_goals
          go_wp2
          go_ret2
          exact ⟨G9.out, .inr ⟨by rw [HLs.out]; exact HN.out, 1 + r, by rw [HLs.out, HR.out], .inl ⟨by rw [HLs.out]; exact HP.out, rfl, _, _, X9.out⟩⟩⟩
      | some v =>
        have HP := Lib.hid hp
        rw [hp] at CN
        clear hp
        have CN' : Hid (∀ W : World, Calls Try.prog 97 #[.string V] W fun e w' => e = .returned (.tuple #[.int .i64 (v : Int), .bool true]) ∧ Below W.heap.size W w') := CN
        clear CN
        go_enter Try.func79, Try.ntmps79
        go_wp2
        go_quiet ((go_at_call 77; exact Calls.quiet_of (CP.out _ rfl)))
        go_wp2_with (first
          | (go_at_call 96; refine (CD.out _).mono ?_; rintro e w2 ⟨rfl, rfl⟩)
          | (go_at_call 78; refine (CR.out _ (HX.out _)).mono ?_; rintro e w3 ⟨rfl, hx, hg⟩; obtain ⟨y0, y1⟩ := hx.line; have X3 := Lib.hid hx; have G3 := Lib.hid (grownBy_trans (grown_step (grownBy_drewN (grown_refl w b) _) 1 _) hg); clear hx hg c0 c1))
        go_region_held3 (fun w' => w'.cell? ⟨b, 0, none⟩ = some (.string s) ∧ w'.cell? ⟨b, 1, none⟩ = some (.int .i64 (K : Int))) (go_keep)
          (first
            | (go_at_call 97; refine (CN'.out _).mono ?_; rintro e w9 ⟨rfl, hb⟩; have X9' := (X3.out.heap (by rfl)).after hb; obtain ⟨z0, z1, z2, z3, z4, z5⟩ := X9'.cell; have g2 := X9'.frozen 2; have g3 := X9'.frozen 3; have g4 := X9'.frozen 4; have g5 := X9'.frozen 5; have X9 := Lib.hid X9'; have G9 := Lib.hid (grownBy_trans (grownBy_drewN G3.out 1) (grownBy_below hb (some b))); clear hb X9'))
        all_goals
          go_wp2
          go_ret2
          exact ⟨grown_tok G9.out _ _ _ _, .inr ⟨by rw [HLs.out]; exact HN.out, 1 + r, by rw [HLs.out, HR.out], .inr ⟨v, by rw [HLs.out]; exact HP.out, rfl, by rw [HK.out]; exact X9.out.tok ⟨2, _, v, 0⟩ rfl rfl rfl rfl⟩⟩⟩
    · rw [decide_eq_false h0] at hSe
      clear h0
      clear hisN
      cases hp : pval ((l.drop k).take (1 + r)) with
      | none =>
        have HP := Lib.hid hp
        rw [hp] at CN
        clear hp
        have CN' : Hid (∀ W : World, Calls Try.prog 97 #[.string V] W fun e w' => e = .returned (.tuple #[.int .i64 0, .bool false]) ∧ Below W.heap.size W w') := CN
        clear CN
        go_enter Try.func79, Try.ntmps79
        go_wp2
        go_quiet ((go_at_call 77; exact Calls.quiet_of (CP.out _ rfl)))
        go_wp2_with (first
          | (go_at_call 96; refine (CD.out _).mono ?_; rintro e w2 ⟨rfl, rfl⟩)
          | (go_at_call 78; refine (CR.out _ (HX.out _)).mono ?_; rintro e w3 ⟨rfl, hx, hg⟩; obtain ⟨y0, y1⟩ := hx.line; have X3 := Lib.hid hx; have G3 := Lib.hid (grownBy_trans (grown_step (grownBy_drewN (grown_refl w b) _) 1 _) hg); clear hx hg c0 c1))
        go_region_held3 (fun w' => w'.cell? ⟨b, 0, none⟩ = some (.string s) ∧ w'.cell? ⟨b, 1, none⟩ = some (.int .i64 (K : Int))) (go_keep)
          (first
            | (go_at_call 97; refine (CN'.out _).mono ?_; rintro e w9 ⟨rfl, hb⟩; have X9' := (X3.out.heap (by rfl)).after hb; obtain ⟨z0, z1, z2, z3, z4, z5⟩ := X9'.cell; have g2 := X9'.frozen 2; have g3 := X9'.frozen 3; have g4 := X9'.frozen 4; have g5 := X9'.frozen 5; have X9 := Lib.hid X9'; have G9 := Lib.hid (grownBy_trans (grownBy_drewN G3.out 1) (grownBy_below hb (some b))); clear hb X9'))
        all_goals
          go_wp2
          go_ret2
          exact ⟨G9.out, .inr ⟨by rw [HLs.out]; exact HN.out, 1 + r, by rw [HLs.out, HR.out], .inl ⟨by rw [HLs.out]; exact HP.out, rfl, _, _, X9.out⟩⟩⟩
      | some v =>
        have HP := Lib.hid hp
        rw [hp] at CN
        clear hp
        have CN' : Hid (∀ W : World, Calls Try.prog 97 #[.string V] W fun e w' => e = .returned (.tuple #[.int .i64 (v : Int), .bool true]) ∧ Below W.heap.size W w') := CN
        clear CN
        go_enter Try.func79, Try.ntmps79
        go_wp2
        go_quiet ((go_at_call 77; exact Calls.quiet_of (CP.out _ rfl)))
        go_wp2_with (first
          | (go_at_call 96; refine (CD.out _).mono ?_; rintro e w2 ⟨rfl, rfl⟩)
          | (go_at_call 78; refine (CR.out _ (HX.out _)).mono ?_; rintro e w3 ⟨rfl, hx, hg⟩; obtain ⟨y0, y1⟩ := hx.line; have X3 := Lib.hid hx; have G3 := Lib.hid (grownBy_trans (grown_step (grownBy_drewN (grown_refl w b) _) 1 _) hg); clear hx hg c0 c1))
        go_region_held3 (fun w' => w'.cell? ⟨b, 0, none⟩ = some (.string s) ∧ w'.cell? ⟨b, 1, none⟩ = some (.int .i64 (K : Int))) (go_keep)
          (first
            | (go_at_call 97; refine (CN'.out _).mono ?_; rintro e w9 ⟨rfl, hb⟩; have X9' := (X3.out.heap (by rfl)).after hb; obtain ⟨z0, z1, z2, z3, z4, z5⟩ := X9'.cell; have g2 := X9'.frozen 2; have g3 := X9'.frozen 3; have g4 := X9'.frozen 4; have g5 := X9'.frozen 5; have X9 := Lib.hid X9'; have G9 := Lib.hid (grownBy_trans (grownBy_drewN G3.out 1) (grownBy_below hb (some b))); clear hb X9'))
        all_goals
          go_wp2
          go_ret2
          exact ⟨grown_tok G9.out _ _ _ _, .inr ⟨by rw [HLs.out]; exact HN.out, 1 + r, by rw [HLs.out, HR.out], .inr ⟨v, by rw [HLs.out]; exact HP.out, rfl, by rw [HK.out]; exact X9.out.tok ⟨2, _, v, 0⟩ rfl rfl rfl rfl⟩⟩⟩
  · have HN : Hid (isNum (l.drop k) = true) := by
      show _ = _
      rw [hisN, h1, h2, decide_eq_true (show 0 < r by omega)]
      rfl
    have d1 : ((c.toNat : Int) != 36) = false := by rw [h2]; rfl
    rw [h1] at CD
    rw [decide_eq_false h3] at hSe
    clear h1 h2 h3
    clear hisN
    cases hp : pval ((l.drop k).take (1 + r)) with
    | none =>
      have HP := Lib.hid hp
      rw [hp] at CN
      clear hp
      have CN' : Hid (∀ W : World, Calls Try.prog 97 #[.string V] W fun e w' => e = .returned (.tuple #[.int .i64 0, .bool false]) ∧ Below W.heap.size W w') := CN
      clear CN
      go_enter Try.func79, Try.ntmps79
      go_wp2
      go_quiet ((go_at_call 77; exact Calls.quiet_of (CP.out _ rfl)))
      go_wp2_with (first
        | (go_at_call 96; refine (CD.out _).mono ?_; rintro e w2 ⟨rfl, rfl⟩)
        | (go_at_call 78; refine (CR.out _ (HX.out _)).mono ?_; rintro e w3 ⟨rfl, hx, hg⟩; obtain ⟨y0, y1⟩ := hx.line; have X3 := Lib.hid hx; have G3 := Lib.hid (grownBy_trans (grown_step (grownBy_drewN (grown_refl w b) _) 1 _) hg); clear hx hg c0 c1))
      go_region_held3 (fun w' => w'.cell? ⟨b, 0, none⟩ = some (.string s) ∧ w'.cell? ⟨b, 1, none⟩ = some (.int .i64 (K : Int))) (go_keep)
        (first
          | (go_at_call 97; refine (CN'.out _).mono ?_; rintro e w9 ⟨rfl, hb⟩; have X9' := (X3.out.heap (by rfl)).after hb; obtain ⟨z0, z1, z2, z3, z4, z5⟩ := X9'.cell; have g2 := X9'.frozen 2; have g3 := X9'.frozen 3; have g4 := X9'.frozen 4; have g5 := X9'.frozen 5; have X9 := Lib.hid X9'; have G9 := Lib.hid (grownBy_trans (grownBy_drewN G3.out 1) (grownBy_below hb (some b))); clear hb X9'))
      all_goals
        go_wp2
        go_ret2
        exact ⟨G9.out, .inr ⟨by rw [HLs.out]; exact HN.out, 1 + r, by rw [HLs.out, HR.out], .inl ⟨by rw [HLs.out]; exact HP.out, rfl, _, _, X9.out⟩⟩⟩
    | some v =>
      have HP := Lib.hid hp
      rw [hp] at CN
      clear hp
      have CN' : Hid (∀ W : World, Calls Try.prog 97 #[.string V] W fun e w' => e = .returned (.tuple #[.int .i64 (v : Int), .bool true]) ∧ Below W.heap.size W w') := CN
      clear CN
      go_enter Try.func79, Try.ntmps79
      go_wp2
      go_quiet ((go_at_call 77; exact Calls.quiet_of (CP.out _ rfl)))
      go_wp2_with (first
        | (go_at_call 96; refine (CD.out _).mono ?_; rintro e w2 ⟨rfl, rfl⟩)
        | (go_at_call 78; refine (CR.out _ (HX.out _)).mono ?_; rintro e w3 ⟨rfl, hx, hg⟩; obtain ⟨y0, y1⟩ := hx.line; have X3 := Lib.hid hx; have G3 := Lib.hid (grownBy_trans (grown_step (grownBy_drewN (grown_refl w b) _) 1 _) hg); clear hx hg c0 c1))
      go_region_held3 (fun w' => w'.cell? ⟨b, 0, none⟩ = some (.string s) ∧ w'.cell? ⟨b, 1, none⟩ = some (.int .i64 (K : Int))) (go_keep)
        (first
          | (go_at_call 97; refine (CN'.out _).mono ?_; rintro e w9 ⟨rfl, hb⟩; have X9' := (X3.out.heap (by rfl)).after hb; obtain ⟨z0, z1, z2, z3, z4, z5⟩ := X9'.cell; have g2 := X9'.frozen 2; have g3 := X9'.frozen 3; have g4 := X9'.frozen 4; have g5 := X9'.frozen 5; have X9 := Lib.hid X9'; have G9 := Lib.hid (grownBy_trans (grownBy_drewN G3.out 1) (grownBy_below hb (some b))); clear hb X9'))
      all_goals
        go_wp2
        go_ret2
        exact ⟨grown_tok G9.out _ _ _ _, .inr ⟨by rw [HLs.out]; exact HN.out, 1 + r, by rw [HLs.out, HR.out], .inr ⟨v, by rw [HLs.out]; exact HP.out, rfl, by rw [HK.out]; exact X9.out.tok ⟨2, _, v, 0⟩ rfl rfl rfl rfl⟩⟩⟩
  · have HN : Hid (isNum (l.drop k) = false) := by
      show _ = _
      rw [hisN, h1, h2, h3]
      rfl
    have d1 : ((c.toNat : Int) != 36) = false := by rw [h2]; rfl
    have d3 : ((c.toNat : Int) == 36) = true := by rw [h2]; rfl
    rw [h1] at CD
    rw [decide_eq_true h3] at hSe
    clear h1 h2 h3 hisN CN
    go_enter Try.func79, Try.ntmps79
    go_wp2
    go_quiet ((go_at_call 77; exact Calls.quiet_of (CP.out _ rfl)))
    go_wp2_with (first
      | (go_at_call 96; refine (CD.out _).mono ?_; rintro e w2 ⟨rfl, rfl⟩)
      | (go_at_call 78; refine (CR.out _ (HX.out _)).mono ?_; rintro e w3 ⟨rfl, hx, hg⟩; obtain ⟨y0, y1⟩ := hx.line; have g1 := hx.frozen 1; have X3 := Lib.hid hx; have G3 := Lib.hid (grownBy_trans (grown_step (grownBy_drewN (grown_refl w b) _) 1 _) hg); clear hx hg c0 c1))
    go_ret2
    exact ⟨grown_step G3.out 1 _, .inl ⟨by rw [HLs.out]; exact HN.out, rfl, X3.out.to k rfl⟩⟩
theorem number_any (b k : Nat) (s : ByteArray) (t : Tk) (w : World) (hs : (s.size : Int) ≤ 140737488355328) (hk : k ≤ s.size) (h : LX w b s k t) :
    Calls Try.prog 79 #[.pointer (some ⟨b, 0, none⟩)] w (NumPost w b k s t) := by
  by_cases hd : isD (pkc s.data.toList k) = true ∨ pkc s.data.toList k = 36 ∨ pkc s.data.toList k = 37
  · exact num_yes b k s t w hs h _ rfl hd
  · exact num_no b k s t w hs hk h _ rfl (by simpa using fun h => hd (.inl h)) (fun h => hd (.inr (.inl h))) (fun h => hd (.inr (.inr h)))
end Go.Proofs.Ytilfbnfejnjaeaa
