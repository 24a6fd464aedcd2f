/- The walks of Print of the reference of the package lex, and of EqualFunc over two lists of tokens. -/
import Derived.Test.YtilfbnfejnjaeaaDoorLprint
import Derived.Test.YtilfbnfejnjaeaaDoorRtext
namespace Go.Proofs.YtilfbnfejnjaeaaDoor
open Go.RowKit

theorem app_str {T S : ByteArray} {a b : List UInt8} (h : T = ⟨a.toArray⟩) (h' : S = ⟨b.toArray⟩) : T ++ S = ⟨(a ++ b).toArray⟩ := app_two h S b h'
set_option maxHeartbeats 8000000 in
theorem rprint_any (A : Option Addr) (ts : List Tk) (n c : Nat) (w : World) (p : Nat → Prop) (hn : ts.length = n) (hm : (n : Int) ≤ 2000) (hl : ((prL ts).length : Int) ≤ 2000) (hk : ∀ t ∈ ts, t.kind ≤ 4) (ht : ∀ t ∈ ts, (t.text.length : Int) ≤ 300) (h : Rd w p A (tcs ts)) :
    Calls Tryd.prog 35 #[.slice A n c] w fun e w' => e = .returned (.string ⟨(prL ts).toArray⟩) ∧ w = w' := by
  have H := Lib.hid h
  have HN := Lib.hid hn
  have HK := Lib.hid hk
  have HT := Lib.hid ht
  have HLen : Hid (∀ k, ((prL (ts.take k)).length : Int) ≤ 2000) := fun k => by have := prL_take_le ts k; omega
  obtain ⟨R, hR⟩ : ∃ R : ByteArray, (⟨(prL ts).toArray⟩ : ByteArray) = R := ⟨_, rfl⟩
  have HR := Lib.hid hR
  rw [hR]
  clear h hn hk ht hl hR
  go_enter Tryd.func35, Tryd.ntmps35
  go_wp2
  go_loop [3, 4] (fun u v => ∃ (T : ByteArray) (k : Nat), u = .string T ∧ v = .int .i64 (k : Int) ∧ k ≤ n ∧ Hid (T = ⟨(prL (ts.take k)).toArray⟩)) (fun _ v => n - (intOf v).toNat)
  case atStart => exact ⟨⟨#[]⟩, 0, rfl, rfl, Nat.zero_le _, rfl⟩
  case round =>
    obtain ⟨T, k, rfl, rfl, hkn, hT⟩ := hrel
    have hTs : (T.size : Int) ≤ 2000 := by
      have := HLen.out k
      rw [← str_len, hT.out]
      exact this
    by_cases hlt : k < n
    · have h1 : k < ts.length := by rw [HN.out]; exact hlt
      obtain ⟨x, hx⟩ : ∃ x, ts[k]? = some x := ⟨_, List.getElem?_eq_getElem h1⟩
      have hxm := List.mem_of_getElem? hx
      have hxk := HK.out x hxm
      have hxt := HT.out x hxm
      obtain ⟨b, o, rfl, c0, c1, c2, c3⟩ := H.out.tok hx
      have lb := lt_of_cell c0
      have hlen := HLen.out (k + 1)
      rw [take_at hx, prL_snoc] at hlen
      have HNx : Hid (ts.take (k + 1) = ts.take k ++ [x]) := take_at hx
      have hPT : ((prT x).length : Int) ≤ 2000 := by
        split at hlen
        · exact hlen
        · rw [List.length_append, List.length_cons] at hlen; omega
      have CT : Hid (∀ W : World, Calls Tryd.prog 15 #[.int .i64 (x.n : Int)] W fun e w' => e = .returned (.string ⟨(textOf (x.n : Int)).toArray⟩) ∧ W = w') := fun W => rtext_any _ W
      have CQ : Hid (∀ W : World, Calls Tryd.prog 31 #[.string ⟨x.text.toArray⟩] W fun e w' => e = .returned (.string ⟨(qt 34 x.text).toArray⟩) ∧ W = w') := fun W => rquote_any ⟨x.text.toArray⟩ W (by rw [← str_len]; show ((x.text.length : Nat) : Int) ≤ 1000; omega)
      obtain ⟨PT, hPT2⟩ : ∃ PT : ByteArray, (⟨(prT x).toArray⟩ : ByteArray) = PT := ⟨_, rfl⟩
      have hPTs : (PT.size : Int) ≤ 2000 := by rw [← str_len, ← hPT2]; exact hPT
      have hT1 : (T ++ ⟨#[32]⟩ : ByteArray).size = T.size + 1 := by rw [ByteArray.size_append]; rfl
      have hT1i : ((T ++ ⟨#[32]⟩ : ByteArray).size : Int) ≤ 2001 := by omega
      have HF0 : Hid (k = 0 → T ++ PT = ⟨(prL (ts.take (k + 1))).toArray⟩) := fun h0 => by
        rw [HNx.out, prL_snoc, if_pos (by rw [h0]; rfl), ← hPT2]
        have hT0 := hT.out
        rw [h0, List.take_zero] at hT0
        exact app_str (a := []) hT0 rfl
      have HF1 : Hid (0 < k → T ++ ⟨#[32]⟩ ++ PT = ⟨(prL (ts.take (k + 1))).toArray⟩) := fun h0 => by
        rw [HNx.out, prL_snoc, if_neg (by
          intro e
          have := congrArg List.length e
          rw [List.length_take, List.length_nil] at this
          omega), ← hPT2]
        have := app_str (app_str hT.out (b := [32]) (S := ⟨#[32]⟩) rfl) (b := prT x) (S := ⟨(prT x).toArray⟩) rfl
        rw [this]
        simp
      clear hT1
      obtain ⟨kd, tx, nx, ax⟩ := x
      dsimp only at c0 c1 c2 c3 hxk CT CQ
      obtain ⟨S, hS⟩ : ∃ S : ByteArray, (⟨tx.toArray⟩ : ByteArray) = S := ⟨_, rfl⟩
      rw [hS] at c1 CQ
      have hkc : kd = 0 ∨ kd = 1 ∨ kd = 2 ∨ kd = 3 ∨ kd = 4 := by omega
      clear hx hxm hxk hxt h1 hlen hPT
      have hk0 : k = 0 ∨ 0 < k := by omega
      rcases hkc with rfl | rfl | rfl | rfl | rfl
      · have hE : PT = ⟨#[]⟩ := hPT2.symm
        have hX : ∀ Z : ByteArray, Z ++ PT = Z := fun Z => by rw [hE]; apply ByteArray.ext; rw [ByteArray.data_append]; simp
        rw [hX] at HF1
        rw [hX] at HF0
        clear hX hE hPT2 hS hPTs
        rcases hk0 with hk0 | hk0
        · have HF := Lib.hid (HF0.out hk0)
          have hk0i : (k : Int) ≤ 0 := by omega
          clear hk0
          go_wp2
          go_round
          case rel => exact ⟨_, k + 1, rfl, by go_num, by omega, HF.out⟩
          case measure => simp [intOf]; omega
        · have HF := Lib.hid (HF1.out hk0)
          have hk0i : (0 : Int) < (k : Int) := by omega
          go_wp2
          go_round
          case rel => exact ⟨_, k + 1, rfl, by go_num, by omega, HF.out⟩
          case measure => simp [intOf]; omega
      · obtain rfl : PT = S := hPT2.symm.trans hS
        clear hPT2 hS
        rcases hk0 with hk0 | hk0
        · have HF := Lib.hid (HF0.out hk0)
          have hk0i : (k : Int) ≤ 0 := by omega
          clear hk0
          go_wp2
          go_round
          case rel => exact ⟨_, k + 1, rfl, by go_num, by omega, HF.out⟩
          case measure => simp [intOf]; omega
        · have HF := Lib.hid (HF1.out hk0)
          have hk0i : (0 : Int) < (k : Int) := by omega
          go_wp2
          go_round
          case rel => exact ⟨_, k + 1, rfl, by go_num, by omega, HF.out⟩
          case measure => simp [intOf]; omega
      · have CT' : Hid (∀ W : World, Calls Tryd.prog 15 #[.int .i64 (nx : Int)] W fun e w' => e = .returned (.string PT) ∧ W = w') := fun W => by
          rw [← hPT2]
          exact CT.out W
        clear hPT2 hS CT CQ
        rcases hk0 with hk0 | hk0
        · have HF := Lib.hid (HF0.out hk0)
          have hk0i : (k : Int) ≤ 0 := by omega
          clear hk0
          go_wp2_with (go_at_call 15; refine (CT'.out _).mono ?_; rintro e w1 ⟨rfl, rfl⟩)
          go_round
          case rel => exact ⟨_, k + 1, rfl, by go_num, by omega, HF.out⟩
          case measure => simp [intOf]; omega
        · have HF := Lib.hid (HF1.out hk0)
          have hk0i : (0 : Int) < (k : Int) := by omega
          go_wp2_with (go_at_call 15; refine (CT'.out _).mono ?_; rintro e w1 ⟨rfl, rfl⟩)
          go_round
          case rel => exact ⟨_, k + 1, rfl, by go_num, by omega, HF.out⟩
          case measure => simp [intOf]; omega
      · have CQ' : Hid (∀ W : World, Calls Tryd.prog 31 #[.string S] W fun e w' => e = .returned (.string PT) ∧ W = w') := fun W => by
          rw [← hPT2]
          exact CQ.out W
        clear hPT2 hS CT CQ
        rcases hk0 with hk0 | hk0
        · have HF := Lib.hid (HF0.out hk0)
          have hk0i : (k : Int) ≤ 0 := by omega
          clear hk0
          go_wp2_with (go_at_call 31; refine (CQ'.out _).mono ?_; rintro e w1 ⟨rfl, rfl⟩)
          go_round
          case rel => exact ⟨_, k + 1, rfl, by go_num, by omega, HF.out⟩
          case measure => simp [intOf]; omega
        · have HF := Lib.hid (HF1.out hk0)
          have hk0i : (0 : Int) < (k : Int) := by omega
          go_wp2_with (go_at_call 31; refine (CQ'.out _).mono ?_; rintro e w1 ⟨rfl, rfl⟩)
          go_round
          case rel => exact ⟨_, k + 1, rfl, by go_num, by omega, HF.out⟩
          case measure => simp [intOf]; omega
      · obtain rfl : PT = S := hPT2.symm.trans hS
        clear hPT2 hS
        rcases hk0 with hk0 | hk0
        · have HF := Lib.hid (HF0.out hk0)
          have hk0i : (k : Int) ≤ 0 := by omega
          clear hk0
          go_wp2
          go_round
          case rel => exact ⟨_, k + 1, rfl, by go_num, by omega, HF.out⟩
          case measure => simp [intOf]; omega
        · have HF := Lib.hid (HF1.out hk0)
          have hk0i : (0 : Int) < (k : Int) := by omega
          go_wp2
          go_round
          case rel => exact ⟨_, k + 1, rfl, by go_num, by omega, HF.out⟩
          case measure => simp [intOf]; omega
    · obtain rfl : k = n := by omega
      obtain rfl : T = R := by
        rw [← HR.out, hT.out, List.take_of_length_le (by rw [HN.out]; exact Nat.le_refl _)]
      go_wp2
      go_ret
      exact ⟨rfl, rfl⟩
end Go.Proofs.YtilfbnfejnjaeaaDoor
