/- The walk of next of the reference of the package lex. -/
import Derived.Test.YtilfbnfejnjaeaaRl3
import Derived.Test.YtilfbnfejnjaeaaRpnum
import Derived.Test.YtilfbnfejnjaeaaLnext
namespace Go.Proofs.Ytilfbnfejnjaeaa
open Go.RowKit

/-- The value of a token. -/
def tkA (t : Tk) : Value := .agg (tkv t).toArray
/-- What next of the reference gives. -/
def RnextPost (w : World) (s : ByteArray) (k : Nat) (e : Ending) (w' : World) : Prop :=
  Below w.heap.size w w' ∧
    ((∃ c : Nat, ∃ t : Tk, tok1 (s.data.toList.drop k) k = .error c ∧ 1 ≤ c ∧ e = .returned (.tuple #[tkA t, .int .i64 0, .int .i64 (c : Int)])) ∨
     ∃ p, tok1 (s.data.toList.drop k) k = .ok p ∧ e = .returned (.tuple #[tkA p.1, .int .i64 ((k + p.2 : Nat) : Int), .int .i64 0]))
/-- A token of the reference lies in block b. -/
def TKB (w : World) (b : Nat) (t : Tk) : Prop := w.heap[b]? = some (.cells #[.int .i64 (t.kind : Int), .string ⟨t.text.toArray⟩, .int .i64 (t.n : Int), .int .i64 (t.at_ : Int)] 65 (0, 0))
theorem TKB.cell {w : World} {b : Nat} {t : Tk} (h : TKB w b t) : w.cell? ⟨b, 0, none⟩ = some (.int .i64 (t.kind : Int)) ∧ w.cell? ⟨b, 1, none⟩ = some (.string ⟨t.text.toArray⟩) ∧ w.cell? ⟨b, 2, none⟩ = some (.int .i64 (t.n : Int)) ∧ w.cell? ⟨b, 3, none⟩ = some (.int .i64 (t.at_ : Int)) := by
  unfold TKB at h
  refine ⟨?_, ?_, ?_, ?_⟩ <;> (unfold World.cell?; simp only [h]; rfl)
theorem TKB.frozen {w : World} {b : Nat} {t : Tk} (h : TKB w b t) (i : Nat) : w.frozen? ⟨b, i, none⟩ = false := by
  unfold TKB at h
  unfold World.frozen?
  simp only [h]
  simp
theorem tkb_two (w : World) (k : Nat) (o : Obj) (ho : o = .cells #[.int .i64 0, .string ⟨#[]⟩, .int .i64 0, .int .i64 0] 65) {w1 : World}
    (hb : Below ((w.alloc o).alloc (.cells #[.int .i64 0, .string ⟨#[]⟩, .int .i64 0, .int .i64 (k : Int)] 65)).heap.size ((w.alloc o).alloc (.cells #[.int .i64 0, .string ⟨#[]⟩, .int .i64 0, .int .i64 (k : Int)] 65)) w1) :
    TKB w1 w.heap.size ⟨0, [], 0, 0⟩ ∧ TKB w1 (w.heap.size + 1) ⟨0, [], 0, k⟩ ∧ Below w.heap.size w w1 ∧ w.heap.size + 2 ≤ w1.heap.size := by
  subst ho
  refine ⟨?_, ?_, (((Below.refl _ _).alloc (Nat.le_refl _) _).alloc (by simp) _).trans (hb.mono (by simp; omega)), ?_⟩
  · refine (hb.block w.heap.size (by simp; omega)).trans ((Below.heap_alloc _ _ _ (by simp)).trans (heap_alloc_new w _))
  · refine (hb.block (w.heap.size + 1) (by simp)).trans ?_
    have := heap_alloc_new (w.alloc (.cells #[.int .i64 0, .string ⟨#[]⟩, .int .i64 0, .int .i64 0] 65)) (.cells #[.int .i64 0, .string ⟨#[]⟩, .int .i64 0, .int .i64 (k : Int)] 65)
    simpa using this
  · have := hb.size
    simpa using this
theorem tkb_more {w w1 w2 : World} {k : Nat} (h0 : TKB w1 w.heap.size ⟨0, [], 0, 0⟩) (h1 : TKB w1 (w.heap.size + 1) ⟨0, [], 0, k⟩) (hb : Below w.heap.size w w1) (hs : w.heap.size + 2 ≤ w1.heap.size) (h : Below w1.heap.size w1 w2) :
    TKB w2 w.heap.size ⟨0, [], 0, 0⟩ ∧ TKB w2 (w.heap.size + 1) ⟨0, [], 0, k⟩ ∧ Below w.heap.size w w2 ∧ w.heap.size + 2 ≤ w2.heap.size :=
  ⟨(h.block _ (by omega)).trans h0, (h.block _ (by omega)).trans h1, hb.trans (h.mono hb.size), Nat.le_trans hs h.size⟩
set_option maxHeartbeats 1000000 in
theorem rnext_word (s : ByteArray) (k : Nat) (w : World) (hs : (s.size : Int) ≤ 140737488355328) (hk : k < s.size) (hw : 0 < wordLen (s.data.toList.drop k)) :
    Calls Try.prog 61 #[.string s, .int .i64 (k : Int)] w (RnextPost w s k) := by
  obtain ⟨l, hl⟩ : ∃ l, s.data.toList = l := ⟨_, rfl⟩
  have hLs : l.length = s.size := by rw [← hl]; exact str_len s
  have hle := wordLen_le (l.drop k)
  rw [List.length_drop] at hle
  rw [hl] at hw
  obtain ⟨c, hc, hlc⟩ := str_at s hk
  have hki : (k : Int) < (s.size : Int) := by omega
  obtain ⟨n, hn⟩ : ∃ n, wordLen (l.drop k) = n := ⟨_, rfl⟩
  obtain ⟨K, hK⟩ : ∃ K, k + n = K := ⟨_, rfl⟩
  have CW : Hid (∀ W : World, Calls Try.prog 60 #[.string s, .int .i64 (k : Int)] W fun e w' => e = .returned (.int .i64 (K : Int)) ∧ Below W.heap.size W w') := fun W => by
    have := rword_any s k W hs (by omega)
    rw [hl, hn, hK] at this
    exact this
  obtain ⟨S, hS⟩ : ∃ S, s.extract k K = S := ⟨_, rfl⟩
  have HS : Hid (S = ⟨((l.drop k).take n).toArray⟩) := bytes_of (by rw [← hS, ext_mid, hl, ← hK, Nat.add_sub_cancel_left])
  have hkK : (k : Int) < (K : Int) := by omega
  have hkK2 : (k : Int) ≤ (K : Int) := by omega
  have hKs : (K : Int) ≤ (s.size : Int) := by omega
  have HT : Hid (tok1 (s.data.toList.drop k) k = .ok (⟨1, (l.drop k).take n, 0, k⟩, n)) := by
    rw [hl, ← hn]
    exact tok1_word hw
  have HK : Hid (k + n = K) := hK
  clear hl hLs hle hw hlc hn hK
  go_enter Try.func61, Try.ntmps61
  go_wp2_with (first
    | (go_at_call 60; refine (CW.out _).mono ?_; rintro e w1 ⟨rfl, hb⟩; obtain ⟨R1, T1, hb1, hs1⟩ := tkb_two w k _ rfl hb; obtain ⟨r0, r1, r2, r3⟩ := R1.cell; obtain ⟨t0, t1, t2, t3⟩ := T1.cell; have fr0 := R1.frozen 0; have fr1 := R1.frozen 1; have fr2 := R1.frozen 2; have fr3 := R1.frozen 3; have ft0 := T1.frozen 0; have ft1 := T1.frozen 1; have ft2 := T1.frozen 2; have RR1 := Lib.hid R1; have TT1 := Lib.hid T1; have B1 := Lib.hid hb1; have S1 := Lib.hid hs1; clear hb hb1 hs1 R1 T1))
  refine bodyPost_ret (v := .tuple #[.agg #[.int .i64 1, .string S, .int .i64 0, .int .i64 (k : Int)], .int .i64 (K : Int), .int .i64 0]) (by simp [results, Try.results61, go_sem, tkA, tkv, r0, r1, r2, r3]) rfl ⟨(by (repeat (refine Below.setCell ?_ (by simp) _)); exact B1.out), .inr ⟨_, HT.out, by rw [HK.out, HS.out]; rfl⟩⟩
set_option maxHeartbeats 2000000 in
theorem rnext_num (s : ByteArray) (k : Nat) (w : World) (hs : (s.size : Int) ≤ 140737488355328) (hk : k < s.size) (hw : wordLen (s.data.toList.drop k) = 0) (c : UInt8) (hlc : s.data.toList[k]? = some c) (hn : isNum (s.data.toList.drop k) = true) :
    Calls Try.prog 61 #[.string s, .int .i64 (k : Int)] w (RnextPost w s k) := by
  obtain ⟨l, hl⟩ : ∃ l, s.data.toList = l := ⟨_, rfl⟩
  have hLs : l.length = s.size := by rw [← hl]; exact str_len s
  obtain ⟨c', hc, hlc'⟩ := str_at s hk
  obtain rfl : c' = c := by rw [hlc'] at hlc; exact Option.some.inj hlc
  clear hlc'
  have hki : (k : Int) < (s.size : Int) := by omega
  have CW : Hid (∀ W : World, Calls Try.prog 60 #[.string s, .int .i64 (k : Int)] W fun e w' => e = .returned (.int .i64 (k : Int)) ∧ Below W.heap.size W w') := fun W => by
    have := rword_any s k W hs (by omega)
    rw [hw, Nat.add_zero] at this
    exact this
  rw [hl] at hlc hw
  have hd : l.drop k = c' :: l.drop (k + 1) := by rw [List.drop_eq_getElem_cons (lt_at hlc), (List.getElem_eq_iff (lt_at hlc)).2 hlc]
  have CD : Hid (∀ W : World, Calls Try.prog 85 #[.int .u8 (c'.toNat : Int)] W fun e w' => e = .returned (.bool (isD c')) ∧ W = w') := fun W => rdigit_lex c' W
  have hisN := isNum_at hlc
  obtain ⟨r, hr⟩ : ∃ r, runLen (l.drop (k + 1)) = r := ⟨_, rfl⟩
  have hrle := runLen_le (l.drop (k + 1))
  rw [List.length_drop] at hrle
  rw [hr] at hisN hrle
  obtain ⟨K, hK⟩ : ∃ K, k + 1 + r = K := ⟨_, rfl⟩
  have CR : Hid (∀ W : World, Calls Try.prog 83 #[.string s, .int .i64 ((k : Int) + 1)] W fun e w' => e = .returned (.int .i64 (K : Int)) ∧ W = w') := fun W => by
    have := rrun_any s (k + 1) W hs (by omega)
    rw [hl, hr, hK] at this
    exact this
  have hkK2 : (k : Int) ≤ (K : Int) := by omega
  have hKs : (K : Int) ≤ (s.size : Int) := by omega
  rw [hl] at hn
  have hm : 1 + r = 1 + runLen ((l.drop k).drop 1) := by rw [List.drop_drop, hr]
  obtain ⟨V, hV⟩ : ∃ V, s.extract k K = V := ⟨_, rfl⟩
  have hVl : V.data.toList = (l.drop k).take (1 + r) := by rw [← hV, ext_mid, hl]; congr 1; omega
  have hVs : (V.size : Int) ≤ 140737488355328 := by rw [← str_len, hVl, List.length_take, List.length_drop]; omega
  have CN0 : Hid (∀ W : World, Calls Try.prog 86 #[.string V] W fun e w' => e = .returned (dgV (pval ((l.drop k).take (1 + r)))) ∧ Below W.heap.size W w') := fun W => by
    have := rparse_num V W hVs
    rw [hVl] at this
    exact this.mono fun e w' h => ⟨h.1, by rw [← h.2]; exact Below.refl _ _⟩
  have hcase : (isD c' = true) ∨ (isD c' = false ∧ ((c'.toNat : Int) == 37) = true) ∨ (isD c' = false ∧ ((c'.toNat : Int) == 37) = false ∧ ((c'.toNat : Int) == 36) = true ∧ (k : Int) + 1 < (K : Int)) := by
    rcases Bool.eq_false_or_eq_true (isD c') with h | h
    · exact .inl h
    · by_cases h37 : c' = 37
      · exact .inr (.inl ⟨h, by rw [h37]; rfl⟩)
      · rw [hisN, h] at hn
        have h37' : (c' == 37) = false := by simpa using h37
        rw [h37'] at hn
        simp at hn
        exact .inr (.inr ⟨h, byte_ne h37 (by decide), by rw [hn.1]; rfl, by omega⟩)
  have HKr : Hid (k + (1 + r) = K) := by show _ = _; omega
  have HTb : Hid (pval ((l.drop k).take (1 + r)) = none → tok1 (s.data.toList.drop k) k = .error 3) := fun h => by rw [hl]; exact tok1_bad hw hn hm h
  have HTn : Hid (∀ v, pval ((l.drop k).take (1 + r)) = some v → tok1 (s.data.toList.drop k) k = .ok (⟨2, [], v, k⟩, 1 + r)) := fun v h => by rw [hl]; exact tok1_num hw hn hm h
  obtain ⟨pv, hpv⟩ : ∃ pv, pval ((l.drop k).take (1 + r)) = pv := ⟨_, rfl⟩
  rw [hpv] at CN0 HTb HTn
  clear hl hLs hlc hw hd hisN hr hrle hK hn hm hVl hpv
  cases pv with
  | none =>
    have CN : Hid (∀ W : World, Calls Try.prog 86 #[.string V] W fun e w' => e = .returned (.tuple #[.int .i64 0, .bool false]) ∧ Below W.heap.size W w') := CN0
    have HT := Lib.hid (HTb.out rfl)
    clear CN0
    rcases hcase with h1 | ⟨h1, h2⟩ | ⟨h1, h2, h3, h4⟩
    all_goals
      rw [h1] at CD
      clear h1
      go_enter Try.func61, Try.ntmps61
      go_wp2_with (first
        | (go_at_call 60; refine (CW.out _).mono ?_; rintro e w1 ⟨rfl, hb⟩; obtain ⟨R1, T1, hb1, hs1⟩ := tkb_two w k _ rfl hb; obtain ⟨r0, r1, r2, r3⟩ := R1.cell; obtain ⟨t0, t1, t2, t3⟩ := T1.cell; have fr0 := R1.frozen 0; have fr1 := R1.frozen 1; have fr2 := R1.frozen 2; have fr3 := R1.frozen 3; have ft0 := T1.frozen 0; have ft1 := T1.frozen 1; have ft2 := T1.frozen 2; have RR1 := Lib.hid R1; have TT1 := Lib.hid T1; have B1 := Lib.hid hb1; have S1 := Lib.hid hs1; clear hb hb1 hs1 R1 T1)
        | (go_at_call 83; refine (CR.out _).mono ?_; rintro e w2 ⟨rfl, rfl⟩)
        | (go_at_call 85; refine (CD.out _).mono ?_; rintro e w3 ⟨rfl, rfl⟩)
        | (go_at_call 86; refine (CN.out _).mono ?_; rintro e w4 ⟨rfl, hb⟩; obtain ⟨R1, T1, hb1, hs1⟩ := tkb_more RR1.out TT1.out B1.out S1.out hb; clear r0 r1 r2 r3 t0 t1 t2 t3 fr0 fr1 fr2 fr3 ft0 ft1 ft2 RR1 TT1 B1 S1; obtain ⟨r0, r1, r2, r3⟩ := R1.cell; obtain ⟨t0, t1, t2, t3⟩ := T1.cell; have fr0 := R1.frozen 0; have fr1 := R1.frozen 1; have fr2 := R1.frozen 2; have fr3 := R1.frozen 3; have ft0 := T1.frozen 0; have ft1 := T1.frozen 1; have ft2 := T1.frozen 2; have RR1 := Lib.hid R1; have TT1 := Lib.hid T1; have B1 := Lib.hid hb1; have S1 := Lib.hid hs1; clear hb hb1 hs1 R1 T1))
      refine bodyPost_ret (v := .tuple #[.agg #[.int .i64 0, .string ⟨#[]⟩, .int .i64 0, .int .i64 (k : Int)], .int .i64 0, .int .i64 3]) (by simp [results, Try.results61, go_sem, tkA, tkv, r0, r1, r2, r3]) rfl ⟨(by (repeat (refine Below.setCell ?_ (by simp) _)); exact B1.out), .inl ⟨3, ⟨0, [], 0, k⟩, HT.out, by omega, rfl⟩⟩
  | some v =>
    have CN : Hid (∀ W : World, Calls Try.prog 86 #[.string V] W fun e w' => e = .returned (.tuple #[.int .i64 (v : Int), .bool true]) ∧ Below W.heap.size W w') := CN0
    have HT := Lib.hid (HTn.out v rfl)
    clear CN0
    rcases hcase with h1 | ⟨h1, h2⟩ | ⟨h1, h2, h3, h4⟩
    all_goals
      rw [h1] at CD
      clear h1
      go_enter Try.func61, Try.ntmps61
      go_wp2_with (first
        | (go_at_call 60; refine (CW.out _).mono ?_; rintro e w1 ⟨rfl, hb⟩; obtain ⟨R1, T1, hb1, hs1⟩ := tkb_two w k _ rfl hb; obtain ⟨r0, r1, r2, r3⟩ := R1.cell; obtain ⟨t0, t1, t2, t3⟩ := T1.cell; have fr0 := R1.frozen 0; have fr1 := R1.frozen 1; have fr2 := R1.frozen 2; have fr3 := R1.frozen 3; have ft0 := T1.frozen 0; have ft1 := T1.frozen 1; have ft2 := T1.frozen 2; have RR1 := Lib.hid R1; have TT1 := Lib.hid T1; have B1 := Lib.hid hb1; have S1 := Lib.hid hs1; clear hb hb1 hs1 R1 T1)
        | (go_at_call 83; refine (CR.out _).mono ?_; rintro e w2 ⟨rfl, rfl⟩)
        | (go_at_call 85; refine (CD.out _).mono ?_; rintro e w3 ⟨rfl, rfl⟩)
        | (go_at_call 86; refine (CN.out _).mono ?_; rintro e w4 ⟨rfl, hb⟩; obtain ⟨R1, T1, hb1, hs1⟩ := tkb_more RR1.out TT1.out B1.out S1.out hb; clear r0 r1 r2 r3 t0 t1 t2 t3 fr0 fr1 fr2 fr3 ft0 ft1 ft2 RR1 TT1 B1 S1; obtain ⟨r0, r1, r2, r3⟩ := R1.cell; obtain ⟨t0, t1, t2, t3⟩ := T1.cell; have fr0 := R1.frozen 0; have fr1 := R1.frozen 1; have fr2 := R1.frozen 2; have fr3 := R1.frozen 3; have ft0 := T1.frozen 0; have ft1 := T1.frozen 1; have ft2 := T1.frozen 2; have RR1 := Lib.hid R1; have TT1 := Lib.hid T1; have B1 := Lib.hid hb1; have S1 := Lib.hid hs1; clear hb hb1 hs1 R1 T1))
      refine bodyPost_ret (v := .tuple #[.agg #[.int .i64 2, .string ⟨#[]⟩, .int .i64 (v : Int), .int .i64 (k : Int)], .int .i64 (K : Int), .int .i64 0]) (by simp [results, Try.results61, go_sem, tkA, tkv, r0, r1, r2, r3]) rfl ⟨(by (repeat (refine Below.setCell ?_ (by simp) _)); exact B1.out), .inr ⟨_, HT.out, by rw [HKr.out]; rfl⟩⟩
set_option maxHeartbeats 2000000 in
theorem rnext_str (s : ByteArray) (k : Nat) (w : World) (hs : (s.size : Int) ≤ 140737488355328) (hk : k < s.size) (hw : wordLen (s.data.toList.drop k) = 0) (c : UInt8) (hlc : s.data.toList[k]? = some c) (hn : isNum (s.data.toList.drop k) = false) (hm : c = 34 ∨ c = 39) :
    Calls Try.prog 61 #[.string s, .int .i64 (k : Int)] w (RnextPost w s k) := by
  obtain ⟨l, hl⟩ : ∃ l, s.data.toList = l := ⟨_, rfl⟩
  have hLs : l.length = s.size := by rw [← hl]; exact str_len s
  obtain ⟨c', hc, hlc'⟩ := str_at s hk
  obtain rfl : c' = c := by rw [hlc'] at hlc; exact Option.some.inj hlc
  clear hlc'
  have hki : (k : Int) < (s.size : Int) := by omega
  have CW : Hid (∀ W : World, Calls Try.prog 60 #[.string s, .int .i64 (k : Int)] W fun e w' => e = .returned (.int .i64 (k : Int)) ∧ Below W.heap.size W w') := fun W => by
    have := rword_any s k W hs (by omega)
    rw [hw, Nat.add_zero] at this
    exact this
  rw [hl] at hlc hw
  have hd : l.drop k = c' :: l.drop (k + 1) := by rw [List.drop_eq_getElem_cons (lt_at hlc), (List.getElem_eq_iff (lt_at hlc)).2 hlc]
  have CD : Hid (∀ W : World, Calls Try.prog 85 #[.int .u8 (c'.toNat : Int)] W fun e w' => e = .returned (.bool (isD c')) ∧ W = w') := fun W => rdigit_lex c' W
  have hisN := isNum_at hlc
  obtain ⟨r, hr⟩ : ∃ r, runLen (l.drop (k + 1)) = r := ⟨_, rfl⟩
  have hrle := runLen_le (l.drop (k + 1))
  rw [List.length_drop] at hrle
  rw [hr] at hisN hrle
  obtain ⟨K, hK⟩ : ∃ K, k + 1 + r = K := ⟨_, rfl⟩
  have CR : Hid (∀ W : World, Calls Try.prog 83 #[.string s, .int .i64 ((k : Int) + 1)] W fun e w' => e = .returned (.int .i64 (K : Int)) ∧ W = w') := fun W => by
    have := rrun_any s (k + 1) W hs (by omega)
    rw [hl, hr, hK] at this
    exact this
  have hkK2 : (k : Int) ≤ (K : Int) := by omega
  have hKs : (K : Int) ≤ (s.size : Int) := by omega
  rw [hl] at hn
  have CQ0 : Hid (∀ W : World, Calls Try.prog 87 #[.string s, .int .i64 (k : Int)] W fun e w' => e = .returned (rqV (quo c' (l.drop (k + 1))) k) ∧ W = w') := fun W => by
    have := rquoted_any s k W hs hk c' (by rw [hl]; exact hlc)
    rw [hl] at this
    exact this
  have hcd : isD c' = false ∧ ((c'.toNat : Int) == 37) = false ∧ ((c'.toNat : Int) == 36) = false := by
    rcases hm with h | h <;> (rw [h]; exact ⟨rfl, rfl, rfl⟩)
  obtain ⟨h1, h2, h3⟩ := hcd
  have hcase : (((c'.toNat : Int) == 34) = true) ∨ (((c'.toNat : Int) == 34) = false ∧ ((c'.toNat : Int) == 39) = true) := by
    rcases hm with h | h
    · exact .inl (by rw [h]; rfl)
    · exact .inr ⟨by rw [h]; rfl, by rw [h]; rfl⟩
  have HTb : Hid (quo c' (l.drop (k + 1)) = none → tok1 (s.data.toList.drop k) k = .error 3) := fun h => by rw [hl]; exact tok1_open c' _ hd hw hn hm h
  have HTn : Hid (∀ p, quo c' (l.drop (k + 1)) = some p → tok1 (s.data.toList.drop k) k = .ok (⟨3, p.1, 0, k⟩, p.2 + 1)) := fun v h => by rw [hl]; exact tok1_text c' _ _ hd hw hn hm h
  have hql := quo_le c' _ (l.drop (k + 1)) (Nat.le_refl _)
  obtain ⟨pv, hpv⟩ : ∃ pv, quo c' (l.drop (k + 1)) = pv := ⟨_, rfl⟩
  rw [hpv] at CQ0 HTb HTn hql
  rw [h1] at CD
  clear hl hlc hw hd hisN hr hK hn hpv hm h1
  cases pv with
  | none =>
    have CQ : Hid (∀ W : World, Calls Try.prog 87 #[.string s, .int .i64 (k : Int)] W fun e w' => e = .returned (.tuple #[.string ⟨#[]⟩, .int .i64 (-1)]) ∧ W = w') := CQ0
    have HT := Lib.hid (HTb.out rfl)
    clear CQ0 hql hLs hrle
    rcases hcase with h4 | ⟨h4, h5⟩
    all_goals
      go_enter Try.func61, Try.ntmps61
      go_wp2_with (first
        | (go_at_call 60; refine (CW.out _).mono ?_; rintro e w1 ⟨rfl, hb⟩; obtain ⟨R1, T1, hb1, hs1⟩ := tkb_two w k _ rfl hb; obtain ⟨r0, r1, r2, r3⟩ := R1.cell; obtain ⟨t0, t1, t2, t3⟩ := T1.cell; have fr0 := R1.frozen 0; have fr1 := R1.frozen 1; have fr2 := R1.frozen 2; have fr3 := R1.frozen 3; have ft0 := T1.frozen 0; have ft1 := T1.frozen 1; have ft2 := T1.frozen 2; have RR1 := Lib.hid R1; have TT1 := Lib.hid T1; have B1 := Lib.hid hb1; have S1 := Lib.hid hs1; clear hb hb1 hs1 R1 T1)
        | (go_at_call 83; refine (CR.out _).mono ?_; rintro e w2 ⟨rfl, rfl⟩)
        | (go_at_call 85; refine (CD.out _).mono ?_; rintro e w3 ⟨rfl, rfl⟩)
        | (go_at_call 87; refine (CQ.out _).mono ?_; rintro e w5 ⟨rfl, rfl⟩))
      refine bodyPost_ret (v := .tuple #[.agg #[.int .i64 0, .string ⟨#[]⟩, .int .i64 0, .int .i64 (k : Int)], .int .i64 0, .int .i64 3]) (by simp [results, Try.results61, go_sem, tkA, tkv, r0, r1, r2, r3]) rfl ⟨(by (repeat (refine Below.setCell ?_ (by simp) _)); exact B1.out), .inl ⟨3, ⟨0, [], 0, k⟩, HT.out, by omega, rfl⟩⟩
  | some p =>
    obtain ⟨N, hN⟩ : ∃ N, k + 1 + p.2 = N := ⟨_, rfl⟩
    obtain ⟨S, hS⟩ : ∃ S : ByteArray, (⟨p.1.toArray⟩ : ByteArray) = S := ⟨_, rfl⟩
    have CQ : Hid (∀ W : World, Calls Try.prog 87 #[.string s, .int .i64 (k : Int)] W fun e w' => e = .returned (.tuple #[.string S, .int .i64 (N : Int)]) ∧ W = w') := fun W => by
      have := CQ0.out W
      rw [← hS, ← hN]
      exact this
    have HT := Lib.hid (HTn.out p rfl)
    have HS := Lib.hid hS
    have HN : Hid (k + (p.2 + 1) = N) := by show _ = _; omega
    clear CQ0 hql hLs hrle hS hN
    rcases hcase with h4 | ⟨h4, h5⟩
    all_goals
      go_enter Try.func61, Try.ntmps61
      go_wp2_with (first
        | (go_at_call 60; refine (CW.out _).mono ?_; rintro e w1 ⟨rfl, hb⟩; obtain ⟨R1, T1, hb1, hs1⟩ := tkb_two w k _ rfl hb; obtain ⟨r0, r1, r2, r3⟩ := R1.cell; obtain ⟨t0, t1, t2, t3⟩ := T1.cell; have fr0 := R1.frozen 0; have fr1 := R1.frozen 1; have fr2 := R1.frozen 2; have fr3 := R1.frozen 3; have ft0 := T1.frozen 0; have ft1 := T1.frozen 1; have ft2 := T1.frozen 2; have RR1 := Lib.hid R1; have TT1 := Lib.hid T1; have B1 := Lib.hid hb1; have S1 := Lib.hid hs1; clear hb hb1 hs1 R1 T1)
        | (go_at_call 83; refine (CR.out _).mono ?_; rintro e w2 ⟨rfl, rfl⟩)
        | (go_at_call 85; refine (CD.out _).mono ?_; rintro e w3 ⟨rfl, rfl⟩)
        | (go_at_call 87; refine (CQ.out _).mono ?_; rintro e w5 ⟨rfl, rfl⟩))
      refine bodyPost_ret (v := .tuple #[.agg #[.int .i64 3, .string S, .int .i64 0, .int .i64 (k : Int)], .int .i64 (N : Int), .int .i64 0]) (by simp [results, Try.results61, go_sem, tkA, tkv, r0, r1, r2, r3]) rfl ⟨(by (repeat (refine Below.setCell ?_ (by simp) _)); exact B1.out), .inr ⟨_, HT.out, by rw [HN.out, ← HS.out]; rfl⟩⟩
set_option maxHeartbeats 2000000 in
theorem rnext_sign (s : ByteArray) (k : Nat) (w : World) (hs : (s.size : Int) ≤ 140737488355328) (hk : k < s.size) (hw : wordLen (s.data.toList.drop k) = 0) (c : UInt8) (hlc : s.data.toList[k]? = some c) (hn : isNum (s.data.toList.drop k) = false) (hm : ¬ (c = 34 ∨ c = 39)) :
    Calls Try.prog 61 #[.string s, .int .i64 (k : Int)] w (RnextPost w s k) := by
  obtain ⟨l, hl⟩ : ∃ l, s.data.toList = l := ⟨_, rfl⟩
  have hLs : l.length = s.size := by rw [← hl]; exact str_len s
  obtain ⟨c', hc, hlc'⟩ := str_at s hk
  obtain rfl : c' = c := by rw [hlc'] at hlc; exact Option.some.inj hlc
  clear hlc'
  have hki : (k : Int) < (s.size : Int) := by omega
  have CW : Hid (∀ W : World, Calls Try.prog 60 #[.string s, .int .i64 (k : Int)] W fun e w' => e = .returned (.int .i64 (k : Int)) ∧ Below W.heap.size W w') := fun W => by
    have := rword_any s k W hs (by omega)
    rw [hw, Nat.add_zero] at this
    exact this
  rw [hl] at hlc hw
  have hd : l.drop k = c' :: l.drop (k + 1) := by rw [List.drop_eq_getElem_cons (lt_at hlc), (List.getElem_eq_iff (lt_at hlc)).2 hlc]
  have CD : Hid (∀ W : World, Calls Try.prog 85 #[.int .u8 (c'.toNat : Int)] W fun e w' => e = .returned (.bool (isD c')) ∧ W = w') := fun W => rdigit_lex c' W
  have hisN := isNum_at hlc
  obtain ⟨r, hr⟩ : ∃ r, runLen (l.drop (k + 1)) = r := ⟨_, rfl⟩
  have hrle := runLen_le (l.drop (k + 1))
  rw [List.length_drop] at hrle
  rw [hr] at hisN hrle
  obtain ⟨K, hK⟩ : ∃ K, k + 1 + r = K := ⟨_, rfl⟩
  have CR : Hid (∀ W : World, Calls Try.prog 83 #[.string s, .int .i64 ((k : Int) + 1)] W fun e w' => e = .returned (.int .i64 (K : Int)) ∧ W = w') := fun W => by
    have := rrun_any s (k + 1) W hs (by omega)
    rw [hl, hr, hK] at this
    exact this
  have hkK2 : (k : Int) ≤ (K : Int) := by omega
  have hKs : (K : Int) ≤ (s.size : Int) := by omega
  rw [hl] at hn
  have h4 : ((c'.toNat : Int) == 34) = false := byte_ne (fun e => hm (.inl e)) (by decide)
  have h5 : ((c'.toNat : Int) == 39) = false := byte_ne (fun e => hm (.inr e)) (by decide)
  have hhead : (l.drop k).head?.getD 0 = c' := by rw [hd]; rfl
  rw [hn] at hisN
  have hisN' := hisN.symm
  simp only [Bool.or_eq_false_iff, Bool.and_eq_false_iff, beq_eq_false_iff_ne, decide_eq_false_iff_not] at hisN'
  obtain ⟨⟨h1, h2⟩, h3⟩ := hisN'
  have h2' : ((c'.toNat : Int) == 37) = false := byte_ne h2 (by decide)
  have hcase : (((c'.toNat : Int) == 36) = false) ∨ (((c'.toNat : Int) == 36) = true ∧ (K : Int) ≤ (k : Int) + 1) := by
    by_cases h36 : c' = 36
    · refine .inr ⟨by rw [h36]; rfl, ?_⟩
      rcases h3 with h3 | h3
      · exact absurd h36 h3
      · omega
    · exact .inl (byte_ne h36 (by decide))
  obtain ⟨g, hg⟩ : ∃ g, signLen (l.drop k) = g := ⟨_, rfl⟩
  have hgle := signLen_le (l.drop k)
  rw [List.length_drop] at hgle
  have CG : Hid (∀ W : World, Calls Try.prog 88 #[.string s, .int .i64 (k : Int)] W fun e w' => e = .returned (.int .i64 (g : Int)) ∧ Below W.heap.size W w') := fun W => by
    have := rsign_any s k W hs hk
    rw [hl, hg] at this
    exact this.mono fun e w' h => ⟨h.1, by obtain ⟨m, hm⟩ := h.2; rw [hm]; exact below_of_drewN _ _ _⟩
  have HTb : Hid (g = 0 → tok1 (s.data.toList.drop k) k = .error 20) := fun h => by rw [hl]; exact tok1_none hw hn (by rw [hhead]; exact hm) (by omega)
  have HTn : Hid (0 < g → tok1 (s.data.toList.drop k) k = .ok (⟨4, (l.drop k).take g, 0, k⟩, g)) := fun h => by rw [hl, ← hg]; exact tok1_sign hw hn (by rw [hhead]; exact hm) (by omega)
  obtain ⟨N, hN⟩ : ∃ N, k + g = N := ⟨_, rfl⟩
  obtain ⟨S, hS⟩ : ∃ S, s.extract k N = S := ⟨_, rfl⟩
  have HS : Hid (S = ⟨((l.drop k).take g).toArray⟩) := bytes_of (by rw [← hS, ext_mid, hl, ← hN, Nat.add_sub_cancel_left])
  have hNk : (k : Int) ≤ (N : Int) := by omega
  have hNs : (N : Int) ≤ (s.size : Int) := by omega
  have hNi : (k : Int) + (g : Int) = (N : Int) := by omega
  have HN : Hid (k + g = N) := hN
  rw [h1] at CD
  rcases Nat.eq_zero_or_pos g with h0 | h0
  · have HT := Lib.hid (HTb.out h0)
    have d0 : ((g : Int) == 0) = true := by rw [h0]; rfl
    clear hl hlc hw hd hisN hr hK hn hm h1 h2 h3 hhead hg hgle hLs hrle HTb HTn h0 hN hNi
    rcases hcase with h6 | ⟨h6, h7⟩
    all_goals
      go_enter Try.func61, Try.ntmps61
      go_wp2_with (first
        | (go_at_call 60; refine (CW.out _).mono ?_; rintro e w1 ⟨rfl, hb⟩; obtain ⟨R1, T1, hb1, hs1⟩ := tkb_two w k _ rfl hb; obtain ⟨r0, r1, r2, r3⟩ := R1.cell; obtain ⟨t0, t1, t2, t3⟩ := T1.cell; have fr0 := R1.frozen 0; have fr1 := R1.frozen 1; have fr2 := R1.frozen 2; have fr3 := R1.frozen 3; have ft0 := T1.frozen 0; have ft1 := T1.frozen 1; have ft2 := T1.frozen 2; have RR1 := Lib.hid R1; have TT1 := Lib.hid T1; have B1 := Lib.hid hb1; have S1 := Lib.hid hs1; clear hb hb1 hs1 R1 T1)
        | (go_at_call 83; refine (CR.out _).mono ?_; rintro e w2 ⟨rfl, rfl⟩)
        | (go_at_call 85; refine (CD.out _).mono ?_; rintro e w3 ⟨rfl, rfl⟩)
        | (go_at_call 88; refine (CG.out _).mono ?_; rintro e w6 ⟨rfl, hb⟩; obtain ⟨R1, T1, hb1, hs1⟩ := tkb_more RR1.out TT1.out B1.out S1.out hb; clear r0 r1 r2 r3 t0 t1 t2 t3 fr0 fr1 fr2 fr3 ft0 ft1 ft2 RR1 TT1 B1 S1; obtain ⟨r0, r1, r2, r3⟩ := R1.cell; obtain ⟨t0, t1, t2, t3⟩ := T1.cell; have fr0 := R1.frozen 0; have fr1 := R1.frozen 1; have fr2 := R1.frozen 2; have fr3 := R1.frozen 3; have ft0 := T1.frozen 0; have ft1 := T1.frozen 1; have ft2 := T1.frozen 2; have RR1 := Lib.hid R1; have TT1 := Lib.hid T1; have B1 := Lib.hid hb1; have S1 := Lib.hid hs1; clear hb hb1 hs1 R1 T1))
      refine bodyPost_ret (v := .tuple #[.agg #[.int .i64 0, .string ⟨#[]⟩, .int .i64 0, .int .i64 (k : Int)], .int .i64 0, .int .i64 20]) (by simp [results, Try.results61, go_sem, tkA, tkv, r0, r1, r2, r3]) rfl ⟨(by (repeat (refine Below.setCell ?_ (by simp) _)); exact B1.out), .inl ⟨20, ⟨0, [], 0, k⟩, HT.out, by omega, rfl⟩⟩
  · have HT := Lib.hid (HTn.out h0)
    have d0 : ((g : Int) == 0) = false := beq_eq_false_iff_ne.2 (by omega)
    clear hl hlc hw hd hisN hr hK hn hm h1 h2 h3 hhead hg hgle hLs hrle HTb HTn h0 hN
    rcases hcase with h6 | ⟨h6, h7⟩
    all_goals
      go_enter Try.func61, Try.ntmps61
      go_wp2_with (first
        | (go_at_call 60; refine (CW.out _).mono ?_; rintro e w1 ⟨rfl, hb⟩; obtain ⟨R1, T1, hb1, hs1⟩ := tkb_two w k _ rfl hb; obtain ⟨r0, r1, r2, r3⟩ := R1.cell; obtain ⟨t0, t1, t2, t3⟩ := T1.cell; have fr0 := R1.frozen 0; have fr1 := R1.frozen 1; have fr2 := R1.frozen 2; have fr3 := R1.frozen 3; have ft0 := T1.frozen 0; have ft1 := T1.frozen 1; have ft2 := T1.frozen 2; have RR1 := Lib.hid R1; have TT1 := Lib.hid T1; have B1 := Lib.hid hb1; have S1 := Lib.hid hs1; clear hb hb1 hs1 R1 T1)
        | (go_at_call 83; refine (CR.out _).mono ?_; rintro e w2 ⟨rfl, rfl⟩)
        | (go_at_call 85; refine (CD.out _).mono ?_; rintro e w3 ⟨rfl, rfl⟩)
        | (go_at_call 88; refine (CG.out _).mono ?_; rintro e w6 ⟨rfl, hb⟩; obtain ⟨R1, T1, hb1, hs1⟩ := tkb_more RR1.out TT1.out B1.out S1.out hb; clear r0 r1 r2 r3 t0 t1 t2 t3 fr0 fr1 fr2 fr3 ft0 ft1 ft2 RR1 TT1 B1 S1; obtain ⟨r0, r1, r2, r3⟩ := R1.cell; obtain ⟨t0, t1, t2, t3⟩ := T1.cell; have fr0 := R1.frozen 0; have fr1 := R1.frozen 1; have fr2 := R1.frozen 2; have fr3 := R1.frozen 3; have ft0 := T1.frozen 0; have ft1 := T1.frozen 1; have ft2 := T1.frozen 2; have RR1 := Lib.hid R1; have TT1 := Lib.hid T1; have B1 := Lib.hid hb1; have S1 := Lib.hid hs1; clear hb hb1 hs1 R1 T1))
      refine bodyPost_ret (v := .tuple #[.agg #[.int .i64 4, .string S, .int .i64 0, .int .i64 (k : Int)], .int .i64 (N : Int), .int .i64 0]) (by simp [results, Try.results61, go_sem, tkA, tkv, r0, r1, r2, r3]) rfl ⟨(by (repeat (refine Below.setCell ?_ (by simp) _)); exact B1.out), .inr ⟨_, HT.out, by rw [HN.out, HS.out]; rfl⟩⟩
theorem rnext_any (s : ByteArray) (k : Nat) (w : World) (hs : (s.size : Int) ≤ 140737488355328) (hk : k < s.size) :
    Calls Try.prog 61 #[.string s, .int .i64 (k : Int)] w (RnextPost w s k) := by
  obtain ⟨c, _, hlc⟩ := str_at s hk
  rcases Nat.eq_zero_or_pos (wordLen (s.data.toList.drop k)) with hw | hw
  · cases hn : isNum (s.data.toList.drop k) with
    | true => exact rnext_num s k w hs hk hw c hlc hn
    | false =>
      by_cases hm : c = 34 ∨ c = 39
      · exact rnext_str s k w hs hk hw c hlc hn hm
      · exact rnext_sign s k w hs hk hw c hlc hn hm
  · exact rnext_word s k w hs hk hw
end Go.Proofs.Ytilfbnfejnjaeaa
