/- The walk of next of the lexer: the token in front. -/
import Derived.Test.YtilfbnfejnjaeaaLnum
import Derived.Test.YtilfbnfejnjaeaaLsign
import Derived.Test.YtilfbnfejnjaeaaLtext
namespace Go.Proofs.Ytilfbnfejnjaeaa
open Go.RowKit

/-- What next gives. -/
def NextPost (w : World) (b k : Nat) (s : ByteArray) (e : Ending) (w' : World) : Prop :=
  w.grownBy w' (some b) ∧
    ((∃ c : Nat, tok1 (s.data.toList.drop k) k = .error c ∧ 1 ≤ c ∧ e = .returned (.int .i64 (c : Int))) ∨
     ∃ p, tok1 (s.data.toList.drop k) k = .ok p ∧ e = .returned (.int .i64 0) ∧ LX w' b s (k + p.2) p.1)
theorem tok1_word {l : List UInt8} {k : Nat} (h : 0 < wordLen l) : tok1 l k = .ok (⟨1, l.take (wordLen l), 0, k⟩, wordLen l) := by
  unfold tok1
  rw [if_pos h]
theorem tok1_bad {l : List UInt8} {k m : Nat} (h : wordLen l = 0) (h1 : isNum l = true) (hm : m = 1 + runLen (l.drop 1)) (h2 : pval (l.take m) = none) : tok1 l k = .error 3 := by
  subst hm
  unfold tok1
  rw [if_neg (by omega), if_pos h1, h2]
theorem tok1_num {l : List UInt8} {k m v : Nat} (h : wordLen l = 0) (h1 : isNum l = true) (hm : m = 1 + runLen (l.drop 1)) (h2 : pval (l.take m) = some v) : tok1 l k = .ok (⟨2, [], v, k⟩, m) := by
  subst hm
  unfold tok1
  rw [if_neg (by omega), if_pos h1, h2]
theorem tok1_open {l : List UInt8} {k : Nat} (c : UInt8) (r : List UInt8) (hl : l = c :: r) (h : wordLen l = 0) (h1 : isNum l = false) (h2 : c = 34 ∨ c = 39) (h3 : quo c r = none) : tok1 l k = .error 3 := by
  subst hl
  unfold tok1
  rw [if_neg (by omega), h1]
  simp only [Bool.false_eq_true, if_false]
  rw [if_pos h2, h3]
theorem tok1_text {l : List UInt8} {k : Nat} (c : UInt8) (r : List UInt8) (p : List UInt8 × Nat) (hl : l = c :: r) (h : wordLen l = 0) (h1 : isNum l = false) (h2 : c = 34 ∨ c = 39) (h3 : quo c r = some p) : tok1 l k = .ok (⟨3, p.1, 0, k⟩, p.2 + 1) := by
  subst hl
  unfold tok1
  rw [if_neg (by omega), h1]
  simp only [Bool.false_eq_true, if_false]
  rw [if_pos h2, h3]
theorem tok1_none {l : List UInt8} {k : Nat} (h : wordLen l = 0) (h1 : isNum l = false) (h2 : ¬ (l.head?.getD 0 = 34 ∨ l.head?.getD 0 = 39)) (h3 : signLen l = 0) : tok1 l k = .error 20 := by
  unfold tok1
  rw [if_neg (by omega), h1]
  simp only [Bool.false_eq_true, if_false]
  cases l with
  | nil => rfl
  | cons c r =>
    dsimp only
    rw [if_neg (by simpa using h2), if_pos h3]
theorem tok1_sign {l : List UInt8} {k : Nat} (h : wordLen l = 0) (h1 : isNum l = false) (h2 : ¬ (l.head?.getD 0 = 34 ∨ l.head?.getD 0 = 39)) (h3 : 0 < signLen l) : tok1 l k = .ok (⟨4, l.take (signLen l), 0, k⟩, signLen l) := by
  unfold tok1
  rw [if_neg (by omega), h1]
  simp only [Bool.false_eq_true, if_false]
  cases l with
  | nil => simp [signLen] at h3
  | cons c r =>
    dsimp only
    rw [if_neg (by simpa using h2), if_neg (by omega)]
/-- One of the four readers begins a token here: it ends with code c and leaves the lexer at k' with the token t'. -/
structure Reads (b k : Nat) (s : ByteArray) (t : Tk) (f : FuncId) (c : Int) (n : Nat) (u : Tk) : Prop where
  out : ∀ W : World, LX W b s k t → Calls Try.prog f #[.pointer (some ⟨b, 0, none⟩)] W fun e w' => e = .returned (.tuple #[.bool true, .int .i64 c]) ∧ (∃ k' t', LX w' b s k' t' ∧ (c = 0 → k' = k + n ∧ t' = u)) ∧ W.grownBy w' (some b)
structure Skips (b k : Nat) (s : ByteArray) (t : Tk) (f : FuncId) : Prop where
  out : ∀ W : World, LX W b s k t → Calls Try.prog f #[.pointer (some ⟨b, 0, none⟩)] W fun e w' => e = .returned (.tuple #[.bool false, .int .i64 0]) ∧ LX w' b s k t ∧ W.grownBy w' (some b)
/-- What next does, in words of the four readers: the first that begins a token has the word. -/
def How (b k : Nat) (s : ByteArray) (t : Tk) : Prop :=
  ∃ (c : Int) (n : Nat) (u : Tk), ((c = 0 ∧ tok1 (s.data.toList.drop k) k = .ok (⟨u.kind, u.text, u.n, k⟩, n)) ∨ (∃ d : Nat, 1 ≤ d ∧ c = (d : Int) ∧ tok1 (s.data.toList.drop k) k = .error d)) ∧
    (Reads b k s t 57 c n u ∨
     (Skips b k s t 57 ∧ Reads b k s t 79 c n u) ∨
     (Skips b k s t 57 ∧ Skips b k s t 79 ∧ Reads b k s t 80 c n u) ∨
     (Skips b k s t 57 ∧ Skips b k s t 79 ∧ Skips b k s t 80 ∧ Reads b k s t 81 c n u))
theorem how_any (b k : Nat) (s : ByteArray) (t : Tk) (hs : (s.size : Int) ≤ 140737488355328) (hk : k < s.size) : How b k s t := by
  obtain ⟨l, hl⟩ : ∃ l, s.data.toList = l := ⟨_, rfl⟩
  have hkl : k < l.length := by rw [← hl, str_len]; exact hk
  obtain ⟨c, hc⟩ : ∃ c, l[k] = c := ⟨_, rfl⟩
  have hd : l.drop k = c :: l.drop (k + 1) := by rw [List.drop_eq_getElem_cons hkl, hc]
  have hp : pkc l k = c := pkc_at (by rw [List.getElem?_eq_getElem hkl, hc])
  have hhead : (l.drop k).head?.getD 0 = c := by rw [hd]; rfl
  unfold How
  have W := fun W (h : LX W b s k t) => word_any b k s t W hs (by omega) h
  have N := fun W (h : LX W b s k t) => number_any b k s t W hs (by omega) h
  have T := fun W (h : LX W b s k t) => text_any_lex b k s t W hs (by omega) h
  have S := fun W (h : LX W b s k t) => sign_any b k s t W hs (by omega) h
  unfold WordPost at W
  unfold NumPost at N
  unfold TextPost at T
  unfold SignPost at S
  rw [hl] at W N T S ⊢
  rw [hp] at T
  rcases Nat.eq_zero_or_pos (wordLen (l.drop k)) with hw | hw
  · have W0 : Skips b k s t 57 := ⟨fun w h => (W w h).mono fun e w' ⟨hg, h⟩ => by
      rcases h with ⟨_, h2, h3⟩ | ⟨h1, _⟩
      · exact ⟨h2, h3, hg⟩
      · omega⟩
    cases hn : isNum (l.drop k) with
    | true =>
      cases hv : pval ((l.drop k).take (1 + runLen ((l.drop k).drop 1))) with
      | none =>
        refine ⟨3, 0, t, .inr ⟨3, by omega, rfl, tok1_bad hw hn rfl hv⟩, .inr (.inl ⟨W0, ⟨fun w h => (N w h).mono fun e w' ⟨hg, h⟩ => ?_⟩⟩)⟩
        rcases h with ⟨h1, _⟩ | ⟨_, m, rfl, h | ⟨v, h, _⟩⟩
        · rw [hn] at h1; cases h1
        · obtain ⟨_, h2, k', t', h3⟩ := h
          exact ⟨h2, ⟨k', t', h3, fun h => by cases h⟩, hg⟩
        · rw [hv] at h; cases h
      | some v =>
        refine ⟨0, 1 + runLen ((l.drop k).drop 1), ⟨2, [], v, 0⟩, .inl ⟨rfl, tok1_num hw hn rfl hv⟩, .inr (.inl ⟨W0, ⟨fun w h => (N w h).mono fun e w' ⟨hg, h⟩ => ?_⟩⟩)⟩
        rcases h with ⟨h1, _⟩ | ⟨_, m, rfl, h | ⟨v', h, h2, h3⟩⟩
        · rw [hn] at h1; cases h1
        · rw [hv] at h; cases h.1
        · rw [hv] at h
          obtain rfl := Option.some.inj h
          exact ⟨h2, ⟨_, _, h3, fun _ => ⟨rfl, rfl⟩⟩, hg⟩
    | false =>
      have N0 : Skips b k s t 79 := ⟨fun w h => (N w h).mono fun e w' ⟨hg, h⟩ => by
        rcases h with ⟨_, h2, h3⟩ | ⟨h1, _⟩
        · exact ⟨h2, h3, hg⟩
        · rw [hn] at h1; cases h1⟩
      by_cases hm : c = 34 ∨ c = 39
      · cases hq : quo c (l.drop (k + 1)) with
        | none =>
          refine ⟨3, 0, t, .inr ⟨3, by omega, rfl, tok1_open c _ hd hw hn hm hq⟩, .inr (.inr (.inl ⟨W0, N0, ⟨fun w h => (T w h).mono fun e w' ⟨hg, h⟩ => ?_⟩⟩))⟩
          rcases h with ⟨h1, _⟩ | ⟨_, h | ⟨p, h, _⟩⟩
          · exact absurd hm h1
          · obtain ⟨_, h2, k', t', h3⟩ := h
            exact ⟨h2, ⟨k', t', h3, fun h => by cases h⟩, hg⟩
          · rw [hq] at h; cases h
        | some p =>
          refine ⟨0, p.2 + 1, ⟨3, p.1, 0, 0⟩, .inl ⟨rfl, tok1_text c _ p hd hw hn hm hq⟩, .inr (.inr (.inl ⟨W0, N0, ⟨fun w h => (T w h).mono fun e w' ⟨hg, h⟩ => ?_⟩⟩))⟩
          rcases h with ⟨h1, _⟩ | ⟨_, h | ⟨p', h, h2, h3⟩⟩
          · exact absurd hm h1
          · rw [hq] at h; cases h.1
          · rw [hq] at h
            obtain rfl := Option.some.inj h
            exact ⟨h2, ⟨_, _, h3, fun _ => ⟨rfl, rfl⟩⟩, hg⟩
      · have T0 : Skips b k s t 80 := ⟨fun w h => (T w h).mono fun e w' ⟨hg, h⟩ => by
          rcases h with ⟨_, h2, h3⟩ | ⟨h1, _⟩
          · exact ⟨h2, h3, hg⟩
          · exact absurd h1 hm⟩
        rcases Nat.eq_zero_or_pos (signLen (l.drop k)) with hz | hz
        · refine ⟨20, 0, t, .inr ⟨20, by omega, rfl, tok1_none hw hn (by rw [hhead]; exact hm) hz⟩, .inr (.inr (.inr ⟨W0, N0, T0, ⟨fun w h => (S w h).mono fun e w' ⟨hg, h⟩ => ?_⟩⟩))⟩
          rcases h with ⟨_, h2, k', t', h3⟩ | ⟨h1, _⟩
          · exact ⟨h2, ⟨k', t', h3, fun h => by cases h⟩, hg⟩
          · omega
        · refine ⟨0, signLen (l.drop k), ⟨4, (l.drop k).take (signLen (l.drop k)), 0, 0⟩, .inl ⟨rfl, tok1_sign hw hn (by rw [hhead]; exact hm) hz⟩, .inr (.inr (.inr ⟨W0, N0, T0, ⟨fun w h => (S w h).mono fun e w' ⟨hg, h⟩ => ?_⟩⟩))⟩
          rcases h with ⟨h1, _⟩ | ⟨_, h2, h3⟩
          · omega
          · exact ⟨h2, ⟨_, _, h3, fun _ => ⟨rfl, rfl⟩⟩, hg⟩
  · refine ⟨0, wordLen (l.drop k), ⟨1, (l.drop k).take (wordLen (l.drop k)), 0, 0⟩, .inl ⟨rfl, tok1_word hw⟩, .inl ⟨fun w h => (W w h).mono fun e w' ⟨hg, h⟩ => ?_⟩⟩
    rcases h with ⟨h1, _⟩ | ⟨_, h2, h3⟩
    · omega
    · exact ⟨h2, ⟨_, _, h3, fun _ => ⟨rfl, rfl⟩⟩, hg⟩
/-- The readers, one after the other. -/
theorem reader0 (b : Nat) (W : World) : (Instr.index 127 (.agg #[.func (.func 57) #[.pointer (some ⟨b, 0, none⟩)] #[], .func (.func 79) #[.pointer (some ⟨b, 0, none⟩)] #[], .func (.func 80) #[.pointer (some ⟨b, 0, none⟩)] #[], .func (.func 81) #[.pointer (some ⟨b, 0, none⟩)] #[]]) (.int .i64 0)).run Try.prog W = .ok (.func (.func 57) #[.pointer (some ⟨b, 0, none⟩)] #[]) W := by kernel_rfl
theorem reader1 (b : Nat) (W : World) : (Instr.index 127 (.agg #[.func (.func 57) #[.pointer (some ⟨b, 0, none⟩)] #[], .func (.func 79) #[.pointer (some ⟨b, 0, none⟩)] #[], .func (.func 80) #[.pointer (some ⟨b, 0, none⟩)] #[], .func (.func 81) #[.pointer (some ⟨b, 0, none⟩)] #[]]) (.int .i64 1)).run Try.prog W = .ok (.func (.func 79) #[.pointer (some ⟨b, 0, none⟩)] #[]) W := by kernel_rfl
theorem reader2 (b : Nat) (W : World) : (Instr.index 127 (.agg #[.func (.func 57) #[.pointer (some ⟨b, 0, none⟩)] #[], .func (.func 79) #[.pointer (some ⟨b, 0, none⟩)] #[], .func (.func 80) #[.pointer (some ⟨b, 0, none⟩)] #[], .func (.func 81) #[.pointer (some ⟨b, 0, none⟩)] #[]]) (.int .i64 2)).run Try.prog W = .ok (.func (.func 80) #[.pointer (some ⟨b, 0, none⟩)] #[]) W := by kernel_rfl
theorem reader3 (b : Nat) (W : World) : (Instr.index 127 (.agg #[.func (.func 57) #[.pointer (some ⟨b, 0, none⟩)] #[], .func (.func 79) #[.pointer (some ⟨b, 0, none⟩)] #[], .func (.func 80) #[.pointer (some ⟨b, 0, none⟩)] #[], .func (.func 81) #[.pointer (some ⟨b, 0, none⟩)] #[]]) (.int .i64 3)).run Try.prog W = .ok (.func (.func 81) #[.pointer (some ⟨b, 0, none⟩)] #[]) W := by kernel_rfl
set_option maxHeartbeats 2000000 in
theorem next_any (b k : Nat) (s : ByteArray) (t : Tk) (w : World) (hs : (s.size : Int) ≤ 140737488355328) (hk : k < s.size) (h : LX w b s k t) :
    Calls Try.prog 59 #[.pointer (some ⟨b, 0, none⟩)] w (NextPost w b k s) := by
  obtain ⟨c, n, u, hc, how⟩ := how_any b k s t hs hk
  have HC := Lib.hid hc
  have H := Lib.hid h
  obtain ⟨c0, c1, _⟩ := h.cell
  have HF : Hid (∀ w' k' t', LX w' b s k' t' → (c = 0 → k' = k + n ∧ t' = u) → w.grownBy w' (some b) → NextPost w b k s (.returned (.int .i64 c)) (w'.setCell ⟨b, 5, none⟩ (.int .i64 (k : Int)))) := fun w' k' t' hx hu hg => by
    refine ⟨grown_step hg 5 _, ?_⟩
    rcases hc with ⟨h1, h2⟩ | ⟨d, hd, h1, h2⟩
    · obtain ⟨rfl, rfl⟩ := hu h1
      exact .inr ⟨_, h2, by rw [h1], hx.setAt k rfl⟩
    · exact .inl ⟨d, h2, hd, by rw [h1]⟩
  clear h hc hs hk
  rcases how with R1 | ⟨K1, R2⟩ | ⟨K1, K2, R3⟩ | ⟨K1, K2, K3, R4⟩
  · have RR := Lib.hid R1.out
    clear R1
    go_enter Try.func59, Try.ntmps59
    go_wp2
    go_loopw [22] (fun v wr => (v = .int .i64 0) ∧ Hid (LX wr b s k t) ∧ Hid (w.grownBy wr (some b))) (fun v _ => 0 - (intOf v).toNat)
    case atStart => exact ⟨rfl, H, grown_refl w b⟩
    case round =>
      obtain ⟨hv, hX, hG⟩ := hrel
      rcases hv with rfl
      · have hix := reader0 b
        go_wp2_with (go_at_call 57; refine (RR.out _ hX.out).mono ?_; rintro e w1 ⟨rfl, ⟨k', t', hx, hu⟩, hg⟩; have g5 := hx.frozen 5; obtain ⟨z0, z1, z2, z3, z4, z5⟩ := hx.cell; have Q1 := Lib.hid (HF.out _ _ _ hx hu (grownBy_trans hG.out hg)); clear hx hu hg)
        go_ret
        exact Q1.out
  · have RR := Lib.hid R2.out
    clear R2
    have KK1 := Lib.hid K1.out
    clear K1
    go_enter Try.func59, Try.ntmps59
    go_wp2
    go_loopw [22] (fun v wr => (v = .int .i64 0 ∨ v = .int .i64 1) ∧ Hid (LX wr b s k t) ∧ Hid (w.grownBy wr (some b))) (fun v _ => 1 - (intOf v).toNat)
    case atStart => exact ⟨(.inl rfl), H, grown_refl w b⟩
    case round =>
      obtain ⟨hv, hX, hG⟩ := hrel
      rcases hv with rfl | rfl
      · have hix := reader0 b
        go_wp2_with (go_at_call 57; refine (KK1.out _ hX.out).mono ?_; rintro e w1 ⟨rfl, hx, hg⟩; have X1 := Lib.hid hx; have G1 := Lib.hid (grownBy_trans hG.out hg); clear hx hg)
        go_round
        case rel => exact ⟨(.inr rfl), X1, G1⟩
        case measure => simp [intOf]
      · have hix := reader1 b
        go_wp2_with (go_at_call 79; refine (RR.out _ hX.out).mono ?_; rintro e w1 ⟨rfl, ⟨k', t', hx, hu⟩, hg⟩; have g5 := hx.frozen 5; obtain ⟨z0, z1, z2, z3, z4, z5⟩ := hx.cell; have Q1 := Lib.hid (HF.out _ _ _ hx hu (grownBy_trans hG.out hg)); clear hx hu hg)
        go_ret
        exact Q1.out
  · have RR := Lib.hid R3.out
    clear R3
    have KK1 := Lib.hid K1.out
    clear K1
    have KK2 := Lib.hid K2.out
    clear K2
    go_enter Try.func59, Try.ntmps59
    go_wp2
    go_loopw [22] (fun v wr => (v = .int .i64 0 ∨ v = .int .i64 1 ∨ v = .int .i64 2) ∧ Hid (LX wr b s k t) ∧ Hid (w.grownBy wr (some b))) (fun v _ => 2 - (intOf v).toNat)
    case atStart => exact ⟨(.inl rfl), H, grown_refl w b⟩
    case round =>
      obtain ⟨hv, hX, hG⟩ := hrel
      rcases hv with rfl | rfl | rfl
      · have hix := reader0 b
        go_wp2_with (go_at_call 57; refine (KK1.out _ hX.out).mono ?_; rintro e w1 ⟨rfl, hx, hg⟩; have X1 := Lib.hid hx; have G1 := Lib.hid (grownBy_trans hG.out hg); clear hx hg)
        go_round
        case rel => exact ⟨(.inr (.inl rfl)), X1, G1⟩
        case measure => simp [intOf]
      · have hix := reader1 b
        go_wp2_with (go_at_call 79; refine (KK2.out _ hX.out).mono ?_; rintro e w1 ⟨rfl, hx, hg⟩; have X1 := Lib.hid hx; have G1 := Lib.hid (grownBy_trans hG.out hg); clear hx hg)
        go_round
        case rel => exact ⟨(.inr (.inr rfl)), X1, G1⟩
        case measure => simp [intOf]
      · have hix := reader2 b
        go_wp2_with (go_at_call 80; refine (RR.out _ hX.out).mono ?_; rintro e w1 ⟨rfl, ⟨k', t', hx, hu⟩, hg⟩; have g5 := hx.frozen 5; obtain ⟨z0, z1, z2, z3, z4, z5⟩ := hx.cell; have Q1 := Lib.hid (HF.out _ _ _ hx hu (grownBy_trans hG.out hg)); clear hx hu hg)
        go_ret
        exact Q1.out
  · have RR := Lib.hid R4.out
    clear R4
    have KK1 := Lib.hid K1.out
    clear K1
    have KK2 := Lib.hid K2.out
    clear K2
    have KK3 := Lib.hid K3.out
    clear K3
    go_enter Try.func59, Try.ntmps59
    go_wp2
    go_loopw [22] (fun v wr => (v = .int .i64 0 ∨ v = .int .i64 1 ∨ v = .int .i64 2 ∨ v = .int .i64 3) ∧ Hid (LX wr b s k t) ∧ Hid (w.grownBy wr (some b))) (fun v _ => 3 - (intOf v).toNat)
    case atStart => exact ⟨(.inl rfl), H, grown_refl w b⟩
    case round =>
      obtain ⟨hv, hX, hG⟩ := hrel
      rcases hv with rfl | rfl | rfl | rfl
      · have hix := reader0 b
        go_wp2_with (go_at_call 57; refine (KK1.out _ hX.out).mono ?_; rintro e w1 ⟨rfl, hx, hg⟩; have X1 := Lib.hid hx; have G1 := Lib.hid (grownBy_trans hG.out hg); clear hx hg)
        go_round
        case rel => exact ⟨(.inr (.inl rfl)), X1, G1⟩
        case measure => simp [intOf]
      · have hix := reader1 b
        go_wp2_with (go_at_call 79; refine (KK2.out _ hX.out).mono ?_; rintro e w1 ⟨rfl, hx, hg⟩; have X1 := Lib.hid hx; have G1 := Lib.hid (grownBy_trans hG.out hg); clear hx hg)
        go_round
        case rel => exact ⟨(.inr (.inr (.inl rfl))), X1, G1⟩
        case measure => simp [intOf]
      · have hix := reader2 b
        go_wp2_with (go_at_call 80; refine (KK3.out _ hX.out).mono ?_; rintro e w1 ⟨rfl, hx, hg⟩; have X1 := Lib.hid hx; have G1 := Lib.hid (grownBy_trans hG.out hg); clear hx hg)
        go_round
        case rel => exact ⟨(.inr (.inr (.inr rfl))), X1, G1⟩
        case measure => simp [intOf]
      · have hix := reader3 b
        go_wp2_with (go_at_call 81; refine (RR.out _ hX.out).mono ?_; rintro e w1 ⟨rfl, ⟨k', t', hx, hu⟩, hg⟩; have g5 := hx.frozen 5; obtain ⟨z0, z1, z2, z3, z4, z5⟩ := hx.cell; have Q1 := Lib.hid (HF.out _ _ _ hx hu (grownBy_trans hG.out hg)); clear hx hu hg)
        go_ret
        exact Q1.out
end Go.Proofs.Ytilfbnfejnjaeaa
