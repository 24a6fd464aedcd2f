/- The walk of word of the lexer. -/
import Derived.Test.YtilfbnfejnjaeaaLrun
namespace Go.Proofs.Ytilfbnfejnjaeaa
open Go.RowKit

theorem wordLen_no {l : List UInt8} {k : Nat} (h : isL (pkc l k) = false) : wordLen (l.drop k) = 0 := by
  cases hd : l.drop k with
  | nil => rfl
  | cons c r =>
    rw [wordLen_cons]
    have : pkc l k = c := by rw [pkc_drop, hd]; rfl
    rw [this] at h
    rw [h]
    rfl
theorem isL_LD {c : UInt8} (h : isL c = true) : isLD c = true := by unfold isLD; rw [h]; rfl
theorem isL_in {l : List UInt8} {k : Nat} (h : isL (pkc l k) = true) : k < l.length ∧ 1 ≤ runLen (l.drop k) := by
  rcases Nat.lt_or_ge k l.length with hk | hk
  · refine ⟨hk, ?_⟩
    have hc : l[k]? = some l[k] := List.getElem?_eq_getElem hk
    rw [pkc_at hc] at h
    rw [runLen_at hc, if_pos (isL_LD h)]
    omega
  · unfold pkc at h
    rw [List.getElem?_eq_none hk] at h
    cases h
theorem wordLen_yes {l : List UInt8} {k : Nat} (h : isL (pkc l k) = true) :
    wordLen (l.drop k) = if isAF ((l.drop k).take (runLen (l.drop k))) = true ∧ l[k + runLen (l.drop k)]? = some 39 then runLen (l.drop k) + 1 else runLen (l.drop k) := by
  cases hd : l.drop k with
  | nil => have := isL_in h; rw [hd] at this; simp [runLen] at this
  | cons c r =>
    have : pkc l k = c := by rw [pkc_drop, hd]; rfl
    rw [this] at h
    rw [wordLen_cons, if_pos h, ← hd, List.getElem?_drop]
    simp only [Bool.and_eq_true, beq_iff_eq]
/-- What word gives: whether a word begins here. -/
def WordPost (w : World) (b k : Nat) (s : ByteArray) (t : Tk) (n : Nat) (e : Ending) (w' : World) : Prop :=
  w.grownBy w' (some b) ∧
    ((n = 0 ∧ e = .returned (.tuple #[.bool false, .int .i64 0]) ∧ LX w' b s k t) ∨
     (0 < n ∧ e = .returned (.tuple #[.bool true, .int .i64 0]) ∧ LX w' b s (k + n) ⟨1, (s.data.toList.drop k).take n, 0, 0⟩))
theorem ext_mid {s : ByteArray} {k m : Nat} : (s.extract k m).data.toList = (s.data.toList.drop k).take (m - k) := by
  rw [ByteArray.data_extract, Array.toList_extract, List.extract_eq_take_drop]
theorem bytes_of {s : ByteArray} {l : List UInt8} (h : s.data.toList = l) : s = ⟨l.toArray⟩ := by
  apply ByteArray.ext
  apply Array.toList_inj.1
  rw [h]
set_option maxHeartbeats 1000000 in
theorem word_any (b k : Nat) (s : ByteArray) (t : Tk) (w : World) (hs : (s.size : Int) ≤ 140737488355328) (hk : k ≤ s.size) (h : LX w b s k t) :
    Calls Try.prog 57 #[.pointer (some ⟨b, 0, none⟩)] w (WordPost w b k s t (wordLen (s.data.toList.drop k))) := by
  obtain ⟨l, hl⟩ : ∃ l, s.data.toList = l := ⟨_, rfl⟩
  obtain ⟨c, hc⟩ : ∃ c, pkc l k = c := ⟨_, rfl⟩
  have CP : Hid (Calls Try.prog 77 #[.pointer (some ⟨b, 0, none⟩)] w fun e w' => e = .returned (.int .u8 (c.toNat : Int)) ∧ DrewOk w w') := by
    subst hl hc
    exact peek_any b 0 k s w hs hk h.line.1 h.line.2
  have CL : Hid (∀ W : World, Calls Try.prog 76 #[.int .u8 (c.toNat : Int)] W fun e w' => e = .returned (.bool (isL c)) ∧ W = w') := fun W => letter_any c W
  have H := Lib.hid h
  have HLs := Lib.hid hl
  obtain ⟨N, hN⟩ : ∃ N, wordLen (l.drop k) = N := ⟨_, rfl⟩
  rw [hl, hN]
  rcases hb : isL c with _ | _
  · rw [hb] at CL
    have HN : Hid (N = 0) := by subst hc; exact hN.symm.trans (wordLen_no hb)
    clear hl hc hN hb h
    go_enter Try.func57, Try.ntmps57
    go_wp2_with (first
      | (go_at_call 77; refine CP.out.mono ?_; rintro e w1 ⟨rfl, hd⟩; have D1 := Lib.hid hd; clear hd)
      | (go_at_call 76; refine (CL.out _).mono ?_; rintro e w2 ⟨rfl, rfl⟩))
    go_ret2
    exact ⟨grown_drew (grown_refl w b) D1.out, .inl ⟨HN.out, rfl, H.out.drew D1.out⟩⟩
  · rw [hb] at CL
    subst hc
    obtain ⟨hkl, hr1⟩ := isL_in hb
    have hw := wordLen_yes hb
    have hrle := runLen_le (l.drop k)
    rw [List.length_drop] at hrle
    obtain ⟨r, hr⟩ : ∃ r, runLen (l.drop k) = r := ⟨_, rfl⟩
    rw [hr] at hr1 hw hrle
    have hLs : l.length = s.size := by rw [← hl]; exact str_len s
    obtain ⟨S, hS⟩ : ∃ S, s.extract k (k + r) = S := ⟨_, rfl⟩
    have hSl : S.data.toList = (l.drop k).take r := by rw [← hS, ext_mid, hl, Nat.add_sub_cancel_left]
    have hSs : S.size = r := by rw [← str_len, hSl, List.length_take, List.length_drop]; omega
    obtain ⟨U, hU⟩ : ∃ U : ByteArray, (⟨(S.data.toList.map upc).toArray⟩ : ByteArray) = U := ⟨_, rfl⟩
    have CR : Hid (∀ W : World, LX W b s k t → Calls Try.prog 78 #[.pointer (some ⟨b, 0, none⟩)] W fun e w' => e = .returned (.string S) ∧ LX w' b s (k + r) t ∧ W.grownBy w' (some b)) := fun W hW => by
      have := run_any b k s t W hs hk hW
      rw [hl, hr, hS] at this
      exact this
    have CU : Hid (∀ W : World, Calls Try.prog 70 #[.string S] W fun e w' => e = .returned (.string U) ∧ Below W.heap.size W w') := fun W => by
      have := upper_any S W (by unfold maxLen; omega)
      rw [hU] at this
      exact this
    have CP2 : Hid (∀ W : World, LX W b s (k + r) t → Calls Try.prog 77 #[.pointer (some ⟨b, 0, none⟩)] W fun e w' => e = .returned (.int .u8 ((pkc l (k + r)).toNat : Int)) ∧ DrewOk W w') := fun W hW => by
      subst hl
      exact peek_any b 0 (k + r) s W hs (by omega) hW.line.1 hW.line.2
    have hAF : isAF ((l.drop k).take r) = (U.toList == [65, 70]) := by
      rw [ByteArray.toList_eq, ← hU, hSl]
      rfl
    by_cases haf : isAF ((l.drop k).take r) = true
    · have d0 : (U.toList == [65, 70]) = true := by rw [← hAF]; exact haf
      obtain ⟨q, hq⟩ : ∃ q, pkc l (k + r) = q := ⟨_, rfl⟩
      rw [hq] at CP2
      by_cases h39 : q = 39
      · have d1 : ((q.toNat : Int) == 39) = true := by rw [h39]; rfl
        have hl39 : l[k + r]? = some 39 := by
          rcases Nat.lt_or_ge (k + r) l.length with h' | h'
          · rw [List.getElem?_eq_getElem h']
            rw [pkc_at (List.getElem?_eq_getElem h')] at hq
            rw [hq, h39]
          · unfold pkc at hq
            rw [List.getElem?_eq_none h', h39] at hq
            cases hq
        have HN : Hid (N = r + 1) := by
          show _ = _
          rw [← hN, hw, if_pos ⟨haf, hl39⟩]
        have HT : Hid (S ++ ⟨#[39]⟩ = ⟨((l.drop k).take (r + 1)).toArray⟩) := bytes_of (by
          rw [ByteArray.data_append, Array.toList_append, hSl, List.take_add_one, List.getElem?_drop, hl39]
          rfl)
        have hS2 : (S.size : Int) ≤ 140737488355328 := by omega
        have hkr : ((k + r : Nat) : Int) ≤ 140737488355328 := by omega
        clear hl hN hb hw hrle hr hLs hS hSl hSs hU hAF haf h hq h39 hl39
        go_enter Try.func57, Try.ntmps57
        go_wp2_with (first
          | (go_at_call 77; (with_reducible refine CP.out.mono ?_); rintro e w1 ⟨rfl, hd⟩; have X1 := Lib.hid (H.out.drew hd); have G1 := Lib.hid (grown_drew (grown_refl w b) hd); clear hd)
          | (go_at_call 76; refine (CL.out _).mono ?_; rintro e w2 ⟨rfl, rfl⟩)
          | (go_at_call 78; refine (CR.out _ X1.out).mono ?_; rintro e w3 ⟨rfl, hx, hg⟩; have X3 := Lib.hid hx; have G3 := Lib.hid (grownBy_trans G1.out hg); clear hx hg)
          | (go_at_call 70; refine (CU.out _).mono ?_; rintro e w4 ⟨rfl, hb⟩; have X4 := Lib.hid (X3.out.after hb); have G4 := Lib.hid (grownBy_trans G3.out (grownBy_below hb (some b))); clear hb)
          | (go_at_call 77; refine (CP2.out _ X4.out).mono ?_; rintro e w5 ⟨rfl, hd⟩; have X5 := X4.out.drew hd; have G5 := Lib.hid (grown_drew G4.out hd); obtain ⟨c0, c1, c2, c3, c4, c5⟩ := X5.cell; have f1 := X5.frozen 1; have f2 := X5.frozen 2; have f3 := X5.frozen 3; have f4 := X5.frozen 4; have f5 := X5.frozen 5; have X6 := Lib.hid X5; clear X5 hd))
        go_ret2
        exact ⟨grown_tok (grown_step G5.out 1 _) _ _ _ _, .inr ⟨by rw [HN.out]; exact Nat.succ_pos _, rfl, by rw [HN.out]; exact (X6.out.to (k + (r + 1)) (by go_num)).tok ⟨1, _, 0, 0⟩ rfl (by rw [HT.out, HLs.out]) rfl rfl⟩⟩
      · have d1 : ((q.toNat : Int) == 39) = false := byte_ne h39 (by decide)
        have HN : Hid (N = r) := by
          show _ = _
          rw [← hN, hw, if_neg (fun h => h39 (by rw [← hq]; exact pkc_at h.2))]
        have HT : Hid (S = ⟨((l.drop k).take r).toArray⟩) := bytes_of hSl
        have hr0 := hr1
        clear hl hN hb hw hrle hr hLs hS hSl hSs hU hAF haf h hq h39
        go_enter Try.func57, Try.ntmps57
        go_wp2_with (first
          | (go_at_call 77; (with_reducible refine CP.out.mono ?_); rintro e w1 ⟨rfl, hd⟩; have X1 := Lib.hid (H.out.drew hd); have G1 := Lib.hid (grown_drew (grown_refl w b) hd); clear hd)
          | (go_at_call 76; refine (CL.out _).mono ?_; rintro e w2 ⟨rfl, rfl⟩)
          | (go_at_call 78; refine (CR.out _ X1.out).mono ?_; rintro e w3 ⟨rfl, hx, hg⟩; have X3 := Lib.hid hx; have G3 := Lib.hid (grownBy_trans G1.out hg); clear hx hg)
          | (go_at_call 70; refine (CU.out _).mono ?_; rintro e w4 ⟨rfl, hb⟩; have X4 := Lib.hid (X3.out.after hb); have G4 := Lib.hid (grownBy_trans G3.out (grownBy_below hb (some b))); clear hb)
          | (go_at_call 77; refine (CP2.out _ X4.out).mono ?_; rintro e w5 ⟨rfl, hd⟩; have X5 := X4.out.drew hd; have G5 := Lib.hid (grown_drew G4.out hd); obtain ⟨c0, c1, c2, c3, c4, c5⟩ := X5.cell; have f2 := X5.frozen 2; have f3 := X5.frozen 3; have f4 := X5.frozen 4; have f5 := X5.frozen 5; have X6 := Lib.hid X5; clear X5 hd))
        go_ret2
        exact ⟨grown_tok G5.out _ _ _ _, .inr ⟨by rw [HN.out]; exact hr0, rfl, by rw [HN.out]; exact X6.out.tok ⟨1, _, 0, 0⟩ rfl (by rw [HT.out, HLs.out]) rfl rfl⟩⟩
    · have d0 : (U.toList == [65, 70]) = false := by rw [← hAF]; simpa using haf
      have HN : Hid (N = r) := by
        show _ = _
        rw [← hN, hw, if_neg (fun h => haf h.1)]
      have HT : Hid (S = ⟨((l.drop k).take r).toArray⟩) := bytes_of hSl
      have hr0 := hr1
      clear hl hN hb hw hrle hr hLs hS hSl hSs hU hAF haf h
      go_enter Try.func57, Try.ntmps57
      go_wp2_with (first
        | (go_at_call 77; refine CP.out.mono ?_; rintro e w1 ⟨rfl, hd⟩; have X1 := Lib.hid (H.out.drew hd); have G1 := Lib.hid (grown_drew (grown_refl w b) hd); clear hd)
        | (go_at_call 76; refine (CL.out _).mono ?_; rintro e w2 ⟨rfl, rfl⟩)
        | (go_at_call 78; refine (CR.out _ X1.out).mono ?_; rintro e w3 ⟨rfl, hx, hg⟩; have X3 := Lib.hid hx; have G3 := Lib.hid (grownBy_trans G1.out hg); clear hx hg)
        | (go_at_call 70; refine (CU.out _).mono ?_; rintro e w4 ⟨rfl, hb⟩; have X4 := X3.out.after hb; have G4 := Lib.hid (grownBy_trans G3.out (grownBy_below hb (some b))); obtain ⟨c0, c1, c2, c3, c4, c5⟩ := X4.cell; have f2 := X4.frozen 2; have f3 := X4.frozen 3; have f4 := X4.frozen 4; have f5 := X4.frozen 5; have X5 := Lib.hid X4; clear X4 hb))
      go_ret2
      exact ⟨grown_tok G4.out _ _ _ _, .inr ⟨by rw [HN.out]; exact hr0, rfl, by rw [HN.out]; exact X5.out.tok ⟨1, _, 0, 0⟩ rfl (by rw [HT.out, HLs.out]) rfl rfl⟩⟩
end Go.Proofs.Ytilfbnfejnjaeaa
