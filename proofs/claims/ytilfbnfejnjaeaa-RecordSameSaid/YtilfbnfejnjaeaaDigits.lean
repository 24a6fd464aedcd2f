/- The walks of digits of the package num, of digit and of value of its reference. -/
import Derived.Test.YtilfbnfejnjaeaaNum
import Derived.Test.YtilfbnfejnjaeaaShelf
namespace Go.Proofs.Ytilfbnfejnjaeaa
open Go.RowKit

/-- The place of a byte among the capital hexadecimal digits; -1 if it is none. -/
def hp (c : UInt8) : Int := if hv c < 16 then (hv c : Int) else -1
theorem hp_all : ∀ n : Fin 256, Lib.indexByte hexl (UInt8.ofNat n.val) = hp (UInt8.ofNat n.val) := by decide +kernel
theorem hp_eq (c : UInt8) : Lib.indexByte hexl c = hp c := by
  have := hp_all ⟨c.toNat, c.toNat_lt⟩
  rw [show UInt8.ofNat (⟨c.toNat, c.toNat_lt⟩ : Fin 256).val = c from by simp] at this
  exact this
theorem hexpos (c : UInt8) (w : World) : Calls Try.prog 94 #[.string ⟨#[48, 49, 50, 51, 52, 53, 54, 55, 56, 57, 65, 66, 67, 68, 69, 70]⟩, .int .u8 (c.toNat : Int)] w fun e w' => e = .returned (.int .i64 (hp c)) ∧ w = w' := by
  refine (Try.strings_IndexByte ⟨#[48, 49, 50, 51, 52, 53, 54, 55, 56, 57, 65, 66, 67, 68, 69, 70]⟩ (c.toNat : Int) w).mono fun e w' ⟨he, hw⟩ => ⟨?_, hw.symm⟩
  rw [he]
  have e2 : ((c.toNat : Int).toNat).toUInt8 = c := by simp
  rw [e2]
  exact ret_int (hp_eq c)

/-- What digits gives for what a word is worth. -/
def dgV : Option Nat → Value
  | some m => .tuple #[.int .i64 (m : Int), .bool true]
  | none => .tuple #[.int .i64 0, .bool false]
/-- What one more digit does to n. -/
theorem digit_step (b n : Nat) (c : UInt8) (hb : 2 ≤ b ∧ b ≤ 16) (hn : n ≤ 65535) :
    (∃ d : Int, hp c = d ∧ 0 ≤ d ∧ d < (b : Int) ∧ d ≤ 99 ∧ (n : Int) * (b : Int) + d ≤ 65535 ∧ ((n * b + hv c : Nat) : Int) = (n : Int) * (b : Int) + d ∧ hv c < b ∧ n * b + hv c ≤ 65535) ∨
    (∃ d : Int, hp c = d ∧ 0 ≤ d ∧ d < (b : Int) ∧ d ≤ 99 ∧ 65535 < (n : Int) * (b : Int) + d ∧ ¬ (hv c < b ∧ n * b + hv c ≤ 65535)) ∨
    (∃ d : Int, hp c = d ∧ (b : Int) ≤ d ∧ 0 ≤ d ∧ d ≤ 99 ∧ ¬ (hv c < b ∧ n * b + hv c ≤ 65535)) ∨
    (∃ d : Int, hp c = d ∧ d < 0 ∧ -1 ≤ d ∧ ¬ (hv c < b ∧ n * b + hv c ≤ 65535)) := by
  have h99 := hv_lt c
  have hm : ((n * b : Nat) : Int) = (n : Int) * (b : Int) := Int.natCast_mul n b
  obtain ⟨x, hx⟩ : ∃ x : Nat, n * b = x := ⟨_, rfl⟩
  rw [← hm, hx]
  by_cases h16 : hv c < 16
  · have e : hp c = (hv c : Int) := by unfold hp; rw [if_pos h16]
    by_cases hlt : hv c < b
    · by_cases hs : x + hv c ≤ 65535
      · exact .inl ⟨_, e, by omega, by omega, by omega, by omega, by omega, hlt, hs⟩
      · exact .inr (.inl ⟨_, e, by omega, by omega, by omega, by omega, by omega⟩)
    · exact .inr (.inr (.inl ⟨_, e, by omega, by omega, by omega, by omega⟩))
  · have e : hp c = -1 := by unfold hp; rw [if_neg h16]
    exact .inr (.inr (.inr ⟨_, e, by omega, by omega, by omega⟩))
theorem prod_le {b n : Nat} (hb : 2 ≤ b ∧ b ≤ 16) (hn : n ≤ 65535) : 0 ≤ (n : Int) * (b : Int) ∧ (n : Int) * (b : Int) ≤ 1048560 := by
  have h := Nat.mul_le_mul hn hb.2
  have hm : ((n * b : Nat) : Int) = (n : Int) * (b : Int) := Int.natCast_mul n b
  omega
theorem nacc_next {b n k : Nat} {l : List UInt8} {c : UInt8} (h : nacc b 0 (l.take k) = some n) (hc : l[k]? = some c) (h1 : hv c < b) (h2 : n * b + hv c ≤ 65535) : nacc b 0 (l.take (k + 1)) = some (n * b + hv c) := by
  rw [take_at hc, nacc_snoc, h]
  exact if_pos ⟨h1, h2⟩
theorem nacc_stop {b n k : Nat} {l : List UInt8} {c : UInt8} (h : nacc b 0 (l.take k) = some n) (hc : l[k]? = some c) (h1 : ¬ (hv c < b ∧ n * b + hv c ≤ 65535)) : nval b l = none := by
  refine nval_none (k := k + 1) ?_
  rw [take_at hc, nacc_snoc, h]
  exact if_neg h1
theorem nval_take {b n k : Nat} {l : List UInt8} (h : nacc b 0 (l.take k) = some n) (hk : l.length ≤ k) (h0 : l ≠ []) : nval b l = some n := by
  unfold nval
  rw [if_neg h0]
  rw [List.take_of_length_le hk] at h
  exact h
set_option maxHeartbeats 1000000 in
theorem digits_any (b : Nat) (hb2 : 2 ≤ (b : Int)) (hb16 : (b : Int) ≤ 16) (s : ByteArray) (w : World) (hs : s.size ≤ 140737488355328) :
    Calls Try.prog 72 #[.string s, .int .i64 (b : Int)] w fun e w' => e = .returned (dgV (nval b s.data.toList)) ∧ w = w' := by
  obtain ⟨l, hl⟩ : ∃ l, s.data.toList = l := ⟨_, rfl⟩
  have HL : Hid (l.length = s.size) := by rw [Hid, ← hl]; exact str_len s
  have HA : Hid (∀ k (h : k < s.size), ∃ c : UInt8, s[k] = c ∧ l[k]? = some c) := by subst hl; exact fun k h => str_at s h
  have HB : Hid (2 ≤ b ∧ b ≤ 16) := ⟨by omega, by omega⟩
  rw [hl]
  have HE : Hid (s.toList.isEmpty = decide (l = [])) := by subst hl; exact str_empty s
  clear hl
  go_enter Try.func72, Try.ntmps72
  go_wp2
  go_loop [6, 11] (fun u v => ∃ k n : Nat, k ≤ s.size ∧ (n : Int) ≤ 65535 ∧ v = .int .i64 k ∧ u = .int .i64 n ∧ Hid (nacc b 0 (l.take k) = some n)) (fun _ v => s.size - (intOf v).toNat)
  case atStart => exact ⟨0, 0, Nat.zero_le _, by omega, rfl, rfl, rfl⟩
  case round =>
    obtain ⟨k, n, hk, hn, rfl, rfl, hA⟩ := hrel
    by_cases hlt : k < s.size
    · obtain ⟨c, hc, hlc⟩ := HA.out k hlt
      obtain ⟨hp0, hp1⟩ := prod_le HB.out (show n ≤ 65535 by omega)
      have HC := Lib.hid hlc
      clear hlc
      rcases digit_step b n c HB.out (by omega) with ⟨d, hd, h0, h1, h2, h3, h4, h5, h6⟩ | ⟨d, hd, h0, h1, h2, h3, h4⟩ | ⟨d, hd, h0, h1, h2, h3⟩ | ⟨d, hd, h0, h1, h2⟩
      · have C := Lib.hid (hexpos c w)
        rw [hd] at C
        have H4 := Lib.hid h4
        have H5 := Lib.hid h5
        have H6 := Lib.hid h6
        clear hd h4 h5 h6
        go_wp2_with (go_at_call 94; refine C.out.mono ?_; rintro e w' ⟨rfl, rfl⟩)
        go_round
        case rel => exact ⟨k + 1, n * b + hv c, by omega, by have := H6.out; omega, by go_num, by rw [H4.out], nacc_next hA.out HC.out H5.out H6.out⟩
        case measure => simp [intOf]; omega
      · have C := Lib.hid (hexpos c w)
        rw [hd] at C
        have HN : Hid (nval b l = none) := nacc_stop hA.out HC.out h4
        clear hd h4
        go_wp2_with (go_at_call 94; refine C.out.mono ?_; rintro e w' ⟨rfl, rfl⟩)
        go_ret2
        exact ⟨by rw [HN.out]; rfl, rfl⟩
      · have C := Lib.hid (hexpos c w)
        rw [hd] at C
        have HN : Hid (nval b l = none) := nacc_stop hA.out HC.out h3
        clear hd h3
        go_wp2_with (go_at_call 94; refine C.out.mono ?_; rintro e w' ⟨rfl, rfl⟩)
        go_ret2
        exact ⟨by rw [HN.out]; rfl, rfl⟩
      · have C := Lib.hid (hexpos c w)
        rw [hd] at C
        have HN : Hid (nval b l = none) := nacc_stop hA.out HC.out h2
        clear hd h2
        go_wp2_with (go_at_call 94; refine C.out.mono ?_; rintro e w' ⟨rfl, rfl⟩)
        go_ret2
        exact ⟨by rw [HN.out]; rfl, rfl⟩
    · by_cases h0 : l = []
      · have d1 : s.toList.isEmpty = true := by rw [HE.out]; simpa using h0
        have HN : Hid (nval b l = none) := by subst h0; rfl
        have hk0 : n = 0 := by
          have := hA.out
          subst h0
          simpa [nacc] using this.symm
        have HK := Lib.hid hk0
        clear h0 hk0
        go_wp2
        go_ret2
        exact ⟨by rw [HN.out]; simp [dgV, HK.out], rfl⟩
      · have d1 : s.toList.isEmpty = false := by rw [HE.out]; simpa using h0
        have HN : Hid (nval b l = some n) := nval_take hA.out (by have := HL.out; omega) h0
        clear h0
        go_wp2
        go_ret2
        exact ⟨by rw [HN.out]; rfl, rfl⟩

/-- The value of a digit of any case; 99 for any other byte. -/
theorem rdigit_any (c : UInt8) (w : World) : Calls Try.prog 73 #[.int .u8 (c.toNat : Int)] w fun e w' => e = .returned (.int .i64 (hv (upc c) : Int)) ∧ w = w' := by
  obtain ⟨y, hy⟩ : ∃ y : Int, (c.toNat : Int) = y := ⟨_, rfl⟩
  have hcases : (48 ≤ y ∧ y ≤ 57 ∧ ((hv (upc c) : Nat) : Int) = y - 48) ∨ (97 ≤ y ∧ y ≤ 102 ∧ ((hv (upc c) : Nat) : Int) = y - 97 + 10) ∨ (65 ≤ y ∧ y ≤ 70 ∧ ((hv (upc c) : Nat) : Int) = y - 65 + 10) ∨
      (((hv (upc c) : Nat) : Int) = 99 ∧ ((0 ≤ y ∧ y < 48) ∨ (57 < y ∧ y < 65) ∨ (70 < y ∧ y < 97) ∨ (102 < y ∧ y ≤ 255))) := by
    subst hy
    have h := byte_le c
    by_cases hl : 97 ≤ (c.toNat : Int) ∧ (c.toNat : Int) ≤ 122
    · have hu := upc_yes hl.1 hl.2
      unfold hv
      by_cases h2 : (c.toNat : Int) ≤ 102
      · rw [if_neg (by omega), if_pos (by omega)]
        exact .inr (.inl (by omega))
      · rw [if_neg (by omega), if_neg (by omega)]
        exact .inr (.inr (.inr (by omega)))
    · rw [upc_no hl]
      unfold hv
      by_cases h1 : 48 ≤ c.toNat ∧ c.toNat ≤ 57
      · rw [if_pos h1]
        exact .inl (by omega)
      · rw [if_neg h1]
        by_cases h2 : 65 ≤ c.toNat ∧ c.toNat ≤ 70
        · rw [if_pos h2]
          exact .inr (.inr (.inl (by omega)))
        · rw [if_neg h2]
          exact .inr (.inr (.inr (by omega)))
  rw [hy]
  clear hy
  rcases hcases with ⟨h1, h2, h3⟩ | ⟨h1, h2, h3⟩ | ⟨h1, h2, h3⟩ | ⟨h3, h4⟩
  all_goals
    have H3 := Lib.hid h3
    clear h3
  · go_enter Try.func73, Try.ntmps73
    go_wp2
    go_ret
    exact ⟨ret_int (by rw [H3.out]), rfl⟩
  · go_enter Try.func73, Try.ntmps73
    go_wp2
    go_ret
    exact ⟨ret_int (by rw [H3.out]), rfl⟩
  · go_enter Try.func73, Try.ntmps73
    go_wp2
    go_ret
    exact ⟨ret_int (by rw [H3.out]), rfl⟩
  · rcases h4 with ⟨h1, h2⟩ | ⟨h1, h2⟩ | ⟨h1, h2⟩ | ⟨h1, h2⟩
    all_goals
      go_enter Try.func73, Try.ntmps73
      go_wp2
      go_ret
      exact ⟨ret_int (by rw [H3.out]), rfl⟩

theorem min_step (n b d : Nat) : Value.int .i64 (min ((n : Int) * (b : Int) + (d : Int)) 1000000) = .int .i64 ((min (n * b + d) 1000000 : Nat) : Int) := by
  have hm : ((n * b : Nat) : Int) = (n : Int) * (b : Int) := Int.natCast_mul n b
  congr 1
  rw [← hm]
  omega
/-- How the reference goes on: the number so far, or one that is too great. -/
def RAcc (b : Nat) (l : List UInt8) (k : Nat) (n : Nat) : Prop := (∀ c ∈ l.take k, hv c < b) ∧ (n ≤ 65535 ∧ nacc b 0 (l.take k) = some n ∨ 65535 < n ∧ nacc b 0 (l.take k) = none)
theorem RAcc.start (b : Nat) (l : List UInt8) : RAcc b l 0 0 := ⟨fun c hc => by simp at hc, .inl ⟨by omega, rfl⟩⟩
theorem RAcc.next {b k n m : Nat} {l : List UInt8} {c : UInt8} (h : RAcc b l k n) (hb : 2 ≤ b) (hc : l[k]? = some c) (h1 : hv c < b) (hm : m = min (n * b + hv c) 1000000) : RAcc b l (k + 1) m := by
  obtain ⟨h0, h2⟩ := h
  rw [RAcc, take_at hc]
  refine ⟨fun x hx => ?_, ?_⟩
  · rcases List.mem_append.1 hx with hx | hx
    · exact h0 x hx
    · obtain rfl := List.mem_singleton.1 hx
      exact h1
  · rw [nacc_snoc]
    rcases h2 with ⟨h2, h3⟩ | ⟨h2, h3⟩
    · rw [h3]
      by_cases h4 : n * b + hv c ≤ 65535
      · exact .inl ⟨by omega, by rw [Option.bind_some, if_pos ⟨h1, h4⟩]; congr 1; omega⟩
      · exact .inr ⟨by omega, if_neg (fun h => h4 h.2)⟩
    · rw [h3]
      have := Nat.mul_le_mul_left n hb
      exact .inr ⟨by omega, rfl⟩
theorem RAcc.stop {b k n : Nat} {l : List UInt8} {c : UInt8} (_ : RAcc b l k n) (hc : l[k]? = some c) (h1 : ¬ hv c < b) : nval b l = none := by
  refine nval_none (k := k + 1) ?_
  rw [take_at hc, nacc_snoc]
  cases nacc b 0 (l.take k) with
  | none => rfl
  | some m => exact if_neg (fun h => h1 h.1)
theorem RAcc.done {b k n : Nat} {l : List UInt8} (h : RAcc b l k n) (hk : l.length ≤ k) (h0 : l ≠ []) : (n ≤ 65535 ∧ nval b l = some n) ∨ (65535 < n ∧ nval b l = none) := by
  have h2 := h.2
  rw [List.take_of_length_le hk] at h2
  unfold nval
  rw [if_neg h0]
  exact h2
/-- What value gives for what a word is worth. -/
def rvI : Option Nat → Int
  | some m => (m : Int)
  | none => -1
set_option maxHeartbeats 1000000 in
theorem value_any (b : Nat) (hb2 : 2 ≤ (b : Int)) (hb16 : (b : Int) ≤ 16) (s : ByteArray) (w : World) (hs : s.size ≤ 140737488355328) :
    Calls Try.prog 99 #[.string s, .int .i64 (b : Int)] w fun e w' => e = .returned (.int .i64 (rvI (nval b (s.data.toList.map upc)))) ∧ w = w' := by
  obtain ⟨l, hl⟩ : ∃ l, s.data.toList.map upc = l := ⟨_, rfl⟩
  have HL : Hid (l.length = s.size) := by rw [Hid, ← hl, List.length_map]; exact str_len s
  have HA : Hid (∀ k (h : k < s.size), ∃ c : UInt8, s[k] = c ∧ l[k]? = some (upc c)) := by
    subst hl
    refine fun k h => ?_
    obtain ⟨c, h1, h2⟩ := str_at s h
    exact ⟨c, h1, by rw [List.getElem?_map, h2]; rfl⟩
  have HB : Hid (2 ≤ b ∧ b ≤ 16) := ⟨by omega, by omega⟩
  rw [hl]
  by_cases h0 : l = []
  · have d1 : s.toList.isEmpty = true := by rw [str_empty]; subst hl; simpa using h0
    have HN : Hid (nval b l = none) := by subst h0; rfl
    clear h0 hl
    go_enter Try.func99, Try.ntmps99
    go_wp2
    go_ret
    exact ⟨ret_int (by rw [HN.out]; rfl), rfl⟩
  · have d1 : s.toList.isEmpty = false := by rw [str_empty]; subst hl; simpa using h0
    have H0 := Lib.hid h0
    clear h0 hl
    go_enter Try.func99, Try.ntmps99
    go_wp2
    go_loop [5, 6] (fun u v => ∃ k n : Nat, k ≤ s.size ∧ (n : Int) ≤ 1000000 ∧ v = .int .i64 k ∧ u = .int .i64 n ∧ Hid (RAcc b l k n)) (fun _ v => s.size - (intOf v).toNat)
    case atStart => exact ⟨0, 0, Nat.zero_le _, by omega, rfl, rfl, RAcc.start b l⟩
    case round =>
      obtain ⟨k, n, hk, hn, rfl, rfl, hA⟩ := hrel
      by_cases hlt : k < s.size
      · obtain ⟨c, hc, hlc⟩ := HA.out k hlt
        have HC := Lib.hid hlc
        clear hlc
        have C := Lib.hid (rdigit_any c w)
        have h99 := hv_lt (upc c)
        obtain ⟨d, hd⟩ : ∃ d : Nat, hv (upc c) = d := ⟨_, rfl⟩
        rw [hd] at C h99
        have HD := Lib.hid hd
        clear hd
        have hm : 0 ≤ (n : Int) * (b : Int) ∧ (n : Int) * (b : Int) ≤ 16000000 := by
          have h := Nat.mul_le_mul (show n ≤ 1000000 by omega) HB.out.2
          have hm : ((n * b : Nat) : Int) = (n : Int) * (b : Int) := Int.natCast_mul n b
          omega
        obtain ⟨hm0, hm1⟩ := hm
        by_cases hdb : d < b
        · go_wp2_with (go_at_call 73; refine C.out.mono ?_; rintro e w' ⟨rfl, rfl⟩)
          go_round
          case rel => exact ⟨k + 1, min (n * b + d) 1000000, by omega, by omega, by go_num, min_step n b d, hA.out.next HB.out.1 HC.out (by rw [HD.out]; exact hdb) (by rw [HD.out])⟩
          case measure => simp [intOf]; omega
        · go_wp2_with (go_at_call 73; refine C.out.mono ?_; rintro e w' ⟨rfl, rfl⟩)
          go_ret
          exact ⟨ret_int (by rw [hA.out.stop HC.out (by rw [HD.out]; exact hdb)]; rfl), rfl⟩
      · obtain rfl : k = s.size := by omega
        rcases hA.out.done (by rw [HL.out]; omega) H0.out with ⟨h1, h2⟩ | ⟨h1, h2⟩
        all_goals
          have HN := Lib.hid h2
          clear h2
          go_wp2
          go_ret
          exact ⟨ret_int (by rw [HN.out]; rfl), rfl⟩
end Go.Proofs.Ytilfbnfejnjaeaa
