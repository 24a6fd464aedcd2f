/- The walk of sign of the lexer. -/
import Derived.Test.YtilfbnfejnjaeaaLword
namespace Go.Proofs.Ytilfbnfejnjaeaa
open Go.RowKit

theorem sg_all : ∀ n : Fin 256, decide (0 ≤ Lib.indexByte signL (UInt8.ofNat n.val)) = decide (UInt8.ofNat n.val ∈ signL) := by decide +kernel
theorem sg_eq (c : UInt8) : decide (0 ≤ Lib.indexByte signL c) = decide (c ∈ signL) := by
  have := sg_all ⟨c.toNat, c.toNat_lt⟩
  rw [show UInt8.ofNat (⟨c.toNat, c.toNat_lt⟩ : Fin 256).val = c from by simp] at this
  exact this
theorem sgpos (c : UInt8) (w : World) : Calls Try.prog 94 #[.string ⟨#[44, 40, 41, 43, 45, 42, 47, 38, 124, 94, 126, 58, 61, 36]⟩, .int .u8 (c.toNat : Int)] w fun e w' => e = .returned (.int .i64 (Lib.indexByte signL c)) ∧ w = w' := by
  refine (Try.strings_IndexByte ⟨#[44, 40, 41, 43, 45, 42, 47, 38, 124, 94, 126, 58, 61, 36]⟩ (c.toNat : Int) w).mono fun e w' ⟨he, hw⟩ => ⟨?_, hw.symm⟩
  rw [he]
  have e2 : ((c.toNat : Int).toNat).toUInt8 = c := by simp
  rw [e2]
  rfl
/-- What sign gives. -/
def SignPost (w : World) (b k : Nat) (s : ByteArray) (e : Ending) (w' : World) : Prop :=
  w.grownBy w' (some b) ∧
    ((signLen (s.data.toList.drop k) = 0 ∧ e = .returned (.tuple #[.bool true, .int .i64 20]) ∧ ∃ k' t', LX w' b s k' t') ∨
     (0 < signLen (s.data.toList.drop k) ∧ e = .returned (.tuple #[.bool true, .int .i64 0]) ∧ LX w' b s (k + signLen (s.data.toList.drop k)) ⟨4, (s.data.toList.drop k).take (signLen (s.data.toList.drop k)), 0, 0⟩))
theorem pre_two {l : List UInt8} {a : UInt8} : Lib.hasPrefix l [a, a] = decide (l.take 2 = [a, a]) := by
  unfold Lib.hasPrefix
  cases l with
  | nil => rfl
  | cons c r =>
    cases r with
    | nil =>
      rw [decide_eq_false (by simp)]
      simp [List.isPrefixOf]
    | cons d r =>
      rw [show (c :: d :: r).take 2 = [c, d] from rfl]
      by_cases h : c = a <;> by_cases h' : d = a
      · subst h; subst h'; simp [List.isPrefixOf]
      · rw [decide_eq_false (by simp [h'])]
        have : (a == d) = false := by simpa using fun e => h' e.symm
        simp [List.isPrefixOf, this]
      · rw [decide_eq_false (by simp [h])]
        have : (a == c) = false := by simpa using fun e => h e.symm
        simp [List.isPrefixOf, this]
      · rw [decide_eq_false (by simp [h])]
        have : (a == c) = false := by simpa using fun e => h e.symm
        simp [List.isPrefixOf, this]
theorem sign_cases (l : List UInt8) (k : Nat) :
    (Lib.hasPrefix (l.drop k) [60, 60] = true ∧ signLen (l.drop k) = 2) ∨
    (Lib.hasPrefix (l.drop k) [60, 60] = false ∧ Lib.hasPrefix (l.drop k) [62, 62] = true ∧ signLen (l.drop k) = 2) ∨
    (Lib.hasPrefix (l.drop k) [60, 60] = false ∧ Lib.hasPrefix (l.drop k) [62, 62] = false ∧ 0 ≤ Lib.indexByte signL (pkc l k) ∧ signLen (l.drop k) = 1) ∨
    (Lib.hasPrefix (l.drop k) [60, 60] = false ∧ Lib.hasPrefix (l.drop k) [62, 62] = false ∧ Lib.indexByte signL (pkc l k) < 0 ∧ signLen (l.drop k) = 0) := by
  rw [pre_two, pre_two]
  have hg := sg_eq (pkc l k)
  rw [pkc_drop] at hg ⊢
  cases hl : l.drop k with
  | nil => exact .inr (.inr (.inr ⟨rfl, rfl, by decide, rfl⟩))
  | cons c r =>
    rw [hl] at hg
    have e : ((c :: r).head?.getD 0) = c := rfl
    rw [e] at hg ⊢
    rw [signLen_cons]
    by_cases h1 : (c :: r).take 2 = [60, 60]
    · exact .inl ⟨decide_eq_true h1, if_pos (.inl h1)⟩
    · by_cases h2 : (c :: r).take 2 = [62, 62]
      · exact .inr (.inl ⟨decide_eq_false h1, decide_eq_true h2, if_pos (.inr h2)⟩)
      · rw [if_neg (fun h => h.elim h1 h2)]
        by_cases h3 : c ∈ signL
        · rw [decide_eq_true h3] at hg
          exact .inr (.inr (.inl ⟨decide_eq_false h1, decide_eq_false h2, of_decide_eq_true hg, if_pos h3⟩))
        · rw [decide_eq_false h3] at hg
          exact .inr (.inr (.inr ⟨decide_eq_false h1, decide_eq_false h2, by have := of_decide_eq_false hg; omega, if_neg h3⟩))
set_option maxHeartbeats 2000000 in
theorem sign_any (b k : Nat) (s : ByteArray) (t : Tk) (w : World) (hs : (s.size : Int) ≤ 140737488355328) (hk : k ≤ s.size) (h : LX w b s k t) :
    Calls Try.prog 81 #[.pointer (some ⟨b, 0, none⟩)] w (SignPost w b k s) := by
  obtain ⟨l, hl⟩ : ∃ l, s.data.toList = l := ⟨_, rfl⟩
  have hLs : l.length = s.size := by rw [← hl]; exact str_len s
  obtain ⟨c, hc⟩ : ∃ c, pkc l k = c := ⟨_, rfl⟩
  obtain ⟨R, hR⟩ : ∃ R, s.extract k s.size = R := ⟨_, rfl⟩
  have hRl : R.data.toList = l.drop k := by rw [← hR, ext_mid, hl, List.take_of_length_le (by rw [List.length_drop]; omega)]
  have hcase := sign_cases l k
  have hle := signLen_le (l.drop k)
  rw [← hRl, hc] at hcase
  have CT : Hid (∀ W : World, LX W b s k t → Calls Try.prog 98 #[.pointer (some ⟨b, 0, none⟩)] W fun e w' => e = .returned (.string R) ∧ DrewOk W w') := fun W hW => by
    have := rest_any b 0 k s W hs (by omega) hW.line.1 hW.line.2
    rw [hR] at this
    exact this
  have CP : Hid (∀ W : World, LX W b s k t → Calls Try.prog 77 #[.pointer (some ⟨b, 0, none⟩)] W fun e w' => e = .returned (.int .u8 (c.toNat : Int)) ∧ DrewOk W w') := fun W hW => by
    subst hl
    subst hc
    exact peek_any b 0 k s W hs hk hW.line.1 hW.line.2
  obtain ⟨p1, hp1⟩ : ∃ p, Lib.hasPrefix R.data.toList [60, 60] = p := ⟨_, rfl⟩
  obtain ⟨p2, hp2⟩ : ∃ p, Lib.hasPrefix R.data.toList [62, 62] = p := ⟨_, rfl⟩
  obtain ⟨i, hi⟩ : ∃ i, Lib.indexByte signL c = i := ⟨_, rfl⟩
  have C1 : Hid (∀ W : World, Calls Try.prog 65 #[.string R, .string ⟨#[60, 60]⟩] W fun e w' => e = .returned (.bool p1) ∧ w' = W) := fun W => by
    have := Try.strings_HasPrefix R ⟨#[60, 60]⟩ W
    rw [← hp1]
    exact this
  have C2 : Hid (∀ W : World, Calls Try.prog 65 #[.string R, .string ⟨#[62, 62]⟩] W fun e w' => e = .returned (.bool p2) ∧ w' = W) := fun W => by
    have := Try.strings_HasPrefix R ⟨#[62, 62]⟩ W
    rw [← hp2]
    exact this
  have C3 : Hid (∀ W : World, Calls Try.prog 94 #[.string ⟨#[44, 40, 41, 43, 45, 42, 47, 38, 124, 94, 126, 58, 61, 36]⟩, .int .u8 (c.toNat : Int)] W fun e w' => e = .returned (.int .i64 i) ∧ W = w') := fun W => by
    have := sgpos c W
    rw [hi] at this
    exact this
  rw [hp1, hp2, hi] at hcase
  obtain ⟨n, hn⟩ : ∃ n, signLen (l.drop k) = n := ⟨_, rfl⟩
  rw [hn] at hle
  rw [hRl, hn] at hcase
  have hnR : n ≤ R.size := by rw [← str_len, hRl]; exact hle
  obtain ⟨V, hV⟩ : ∃ V, R.extract 0 n = V := ⟨_, rfl⟩
  have HV : Hid (V = ⟨((l.drop k).take n).toArray⟩) := bytes_of (by rw [← hV, ext_mid, hRl, List.drop_zero, Nat.sub_zero])
  have H := Lib.hid h
  have HLs := Lib.hid hl
  have HNn : Hid (signLen (l.drop k) = n) := hn
  have hks : (k : Int) + (n : Int) ≤ 140737488355328 := by rw [List.length_drop] at hle; omega
  clear h hl hLs hc hR hRl hle hp1 hp2 hi hn
  rcases hcase with ⟨rfl, rfl⟩ | ⟨rfl, rfl, rfl⟩ | ⟨rfl, rfl, h1, rfl⟩ | ⟨rfl, rfl, h1, rfl⟩
  · have hR2 : (2 : Int) ≤ (R.size : Int) := by omega
    have hk2 : (k : Int) + 2 ≤ 140737488355328 := by omega
    clear hks
    go_enter Try.func81, Try.ntmps81
    have X0 := H
    have G0 := Lib.hid (grown_refl w b)
    go_wp2_with (first
      | (go_at_call 98; refine (CT.out _ X0.out).mono ?_; rintro e w1 ⟨rfl, hd⟩; have X1 := X0.out.drew hd; have G1 := Lib.hid (grown_drew G0.out hd); obtain ⟨c0, c1, c2, c3, c4, c5⟩ := X1.cell; have f1 := X1.frozen 1; have f2 := X1.frozen 2; have f3 := X1.frozen 3; have f4 := X1.frozen 4; have f5 := X1.frozen 5; clear X0 G0 hd; have X0 := Lib.hid X1; have G0 := G1; clear X1 G1)
      | (go_at_call 65; (with_reducible refine (C1.out _).mono ?_); rintro e w1 ⟨rfl, rfl⟩))
    go_ret2
    exact ⟨grown_step (grown_tok G0.out _ _ _ _) 1 _, .inr ⟨by rw [HLs.out, HNn.out]; decide, rfl, by rw [HLs.out, HNn.out]; exact (X0.out.tok ⟨4, _, 0, 0⟩ rfl (by rw [HV.out]) rfl rfl).to (k + 2) rfl⟩⟩
  · have hR2 : (2 : Int) ≤ (R.size : Int) := by omega
    have hk2 : (k : Int) + 2 ≤ 140737488355328 := by omega
    clear hks
    go_enter Try.func81, Try.ntmps81
    have X0 := H
    have G0 := Lib.hid (grown_refl w b)
    go_wp2_with (first
      | (go_at_call 98; refine (CT.out _ X0.out).mono ?_; rintro e w1 ⟨rfl, hd⟩; have X1 := X0.out.drew hd; have G1 := Lib.hid (grown_drew G0.out hd); obtain ⟨c0, c1, c2, c3, c4, c5⟩ := X1.cell; have f1 := X1.frozen 1; have f2 := X1.frozen 2; have f3 := X1.frozen 3; have f4 := X1.frozen 4; have f5 := X1.frozen 5; clear X0 G0 hd; have X0 := Lib.hid X1; have G0 := G1; clear X1 G1)
      | (go_at_call 65; (with_reducible refine (C1.out _).mono ?_); rintro e w1 ⟨rfl, rfl⟩)
      | (go_at_call 65; refine (C2.out _).mono ?_; rintro e w1 ⟨rfl, rfl⟩))
    go_ret2
    exact ⟨grown_step (grown_tok G0.out _ _ _ _) 1 _, .inr ⟨by rw [HLs.out, HNn.out]; decide, rfl, by rw [HLs.out, HNn.out]; exact (X0.out.tok ⟨4, _, 0, 0⟩ rfl (by rw [HV.out]) rfl rfl).to (k + 2) rfl⟩⟩
  · have hR2 : (1 : Int) ≤ (R.size : Int) := by omega
    have hk2 : (k : Int) + 1 ≤ 140737488355328 := by omega
    clear hks
    go_enter Try.func81, Try.ntmps81
    have X0 := H
    have G0 := Lib.hid (grown_refl w b)
    go_wp2_with (first
      | (go_at_call 98; refine (CT.out _ X0.out).mono ?_; rintro e w1 ⟨rfl, hd⟩; have X1 := X0.out.drew hd; have G1 := Lib.hid (grown_drew G0.out hd); obtain ⟨c0, c1, c2, c3, c4, c5⟩ := X1.cell; have f1 := X1.frozen 1; have f2 := X1.frozen 2; have f3 := X1.frozen 3; have f4 := X1.frozen 4; have f5 := X1.frozen 5; clear X0 G0 hd; have X0 := Lib.hid X1; have G0 := G1; clear X1 G1)
      | (go_at_call 65; (with_reducible refine (C1.out _).mono ?_); rintro e w1 ⟨rfl, rfl⟩)
      | (go_at_call 65; refine (C2.out _).mono ?_; rintro e w1 ⟨rfl, rfl⟩)
      | (go_at_call 77; refine (CP.out _ X0.out).mono ?_; rintro e w1 ⟨rfl, hd⟩; have X1 := Lib.hid (X0.out.drew hd); have G1 := Lib.hid (grown_drew G0.out hd); clear X0 G0 hd; have X0 := X1; have G0 := G1; clear X1 G1)
      | (go_at_call 94; refine (C3.out _).mono ?_; rintro e w1 ⟨rfl, rfl⟩))
    go_ret2
    exact ⟨grown_step (grown_tok G0.out _ _ _ _) 1 _, .inr ⟨by rw [HLs.out, HNn.out]; decide, rfl, by rw [HLs.out, HNn.out]; exact (X0.out.tok ⟨4, _, 0, 0⟩ rfl (by rw [HV.out]) rfl rfl).to (k + 1) rfl⟩⟩
  · clear hks
    go_enter Try.func81, Try.ntmps81
    have X0 := H
    have G0 := Lib.hid (grown_refl w b)
    go_wp2_with (first
      | (go_at_call 98; refine (CT.out _ X0.out).mono ?_; rintro e w1 ⟨rfl, hd⟩; have X1 := Lib.hid (X0.out.drew hd); have G1 := Lib.hid (grown_drew G0.out hd); clear X0 G0 hd; have X0 := X1; have G0 := G1; clear X1 G1)
      | (go_at_call 65; (with_reducible refine (C1.out _).mono ?_); rintro e w1 ⟨rfl, rfl⟩)
      | (go_at_call 65; refine (C2.out _).mono ?_; rintro e w1 ⟨rfl, rfl⟩)
      | (go_at_call 77; refine (CP.out _ X0.out).mono ?_; rintro e w1 ⟨rfl, hd⟩; have X1 := Lib.hid (X0.out.drew hd); have G1 := Lib.hid (grown_drew G0.out hd); clear X0 G0 hd; have X0 := X1; have G0 := G1; clear X1 G1)
      | (go_at_call 94; refine (C3.out _).mono ?_; rintro e w1 ⟨rfl, rfl⟩))
    go_ret2
    exact ⟨G0.out, .inl ⟨by rw [HLs.out, HNn.out], rfl, _, _, X0.out⟩⟩
end Go.Proofs.Ytilfbnfejnjaeaa
