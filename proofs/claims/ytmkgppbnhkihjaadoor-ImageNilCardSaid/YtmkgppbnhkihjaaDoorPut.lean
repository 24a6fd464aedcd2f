/- The walks of Put, Get and Len of an image. -/
import Derived.Test.YtmkgppbnhkihjaaDoorSet
import Derived.Laws.CopyOwn
namespace Go.Proofs.YtmkgppbnhkihjaaDoor
open Go.RowKit Go.Shelf

/-- S with n addresses more, from a on. -/
def insR (S : Nat → Bool) (a n : Nat) : Nat → Bool := fun x => S x || (decide (a ≤ x) && decide (x < a + n))
theorem insR_zero (S : Nat → Bool) (a : Nat) : insR S a 0 = S := by
  funext x
  simp only [insR, Nat.add_zero]
  have : (decide (a ≤ x) && decide (x < a)) = false := by simp
  rw [this, Bool.or_false]
theorem insR_succ (S : Nat → Bool) (a n : Nat) : ins (insR S a n) (a + n) = insR S a (n + 1) := by
  funext x
  simp only [ins, insR, Bool.or_assoc]
  congr 1
  rw [Bool.eq_iff_iff]
  simp
  omega
/-- D with the bytes l from a on. -/
def wr (D : Nat → UInt8) (a : Nat) (l : List UInt8) : Nat → UInt8 := fun x => if a ≤ x then (l[x - a]?).getD (D x) else D x
theorem wr_nil (D : Nat → UInt8) (a : Nat) : wr D a [] = D := by
  funext x
  simp [wr]

section
variable {P : Program} {w : World}
theorem Img.wr {g n : Nat} {S : Nat → Bool} {D : Nat → UInt8} (h : Img w g S n D) (a : Nat) (l : List UInt8) (hal : a + l.length ≤ 65536) (cur : Array Value) (hg : w.heap[g]? = some (.cells cur 63 (0, 0))) :
    Img (w.setRow g (cur.toList.take (1025 + a) ++ bs l ++ cur.toList.drop (1025 + a + (bs l).length)).toArray) g S n (wr D a l) := by
  obtain ⟨cs, hb, hi⟩ := h
  rw [hg] at hb
  obtain rfl : cur = cs := by injection hb with hb; injection hb
  refine ⟨_, setRow_heap w g _ _ _ _ hg, ?_⟩
  have hs := hi.size
  have key : ∀ j, (cur.toList.take (1025 + a) ++ bs l ++ cur.toList.drop (1025 + a + (bs l).length)).toArray[j]? = if 1025 + a ≤ j ∧ j < 1025 + a + l.length then (bs l)[j - (1025 + a)]? else cur[j]? := by
    intro j
    rw [List.getElem?_toArray, List.append_assoc]
    by_cases h1 : j < 1025 + a
    · rw [List.getElem?_append_left (by rw [List.length_take, Array.length_toList]; omega), if_neg (by omega), List.getElem?_take, if_pos h1, Array.getElem?_toList]
    · rw [List.getElem?_append_right (by rw [List.length_take, Array.length_toList]; omega)]
      have e : (cur.toList.take (1025 + a)).length = 1025 + a := by rw [List.length_take, Array.length_toList]; omega
      rw [e]
      by_cases h2 : j < 1025 + a + l.length
      · rw [if_pos ⟨by omega, h2⟩, List.getElem?_append_left (by rw [bs_length]; omega)]
      · rw [if_neg (by omega), List.getElem?_append_right (by rw [bs_length]; omega), List.getElem?_drop, bs_length, Array.getElem?_toList]
        congr 1
        omega
  refine ⟨?_, fun k hk => ?_, ?_, fun x hx => ?_⟩
  · simp only [List.size_toArray, List.length_append, List.length_take, List.length_drop, Array.length_toList, bs_length]
    omega
  · rw [key, if_neg (by omega)]; exact hi.words k hk
  · rw [key, if_neg (by omega)]; exact hi.count
  · rw [key]
    unfold YtmkgppbnhkihjaaDoor.wr
    by_cases h1 : a ≤ x
    · by_cases h2 : x < a + l.length
      · have e : 1025 + x - (1025 + a) = x - a := by omega
        rw [if_pos ⟨by omega, by omega⟩, if_pos h1, e, List.getElem?_eq_getElem (by rw [bs_length]; omega), bs_get, List.getElem?_eq_getElem (by omega)]
        rfl
      · rw [if_neg (by omega), if_pos h1, List.getElem?_eq_none (by omega)]
        exact hi.bytes x hx
    · rw [if_neg (by omega), if_neg h1]
      exact hi.bytes x hx

theorem grownBy_setRow (w : World) (g : Nat) (cs : Array Value) : w.grownBy (w.setRow g cs) (some g) :=
  ⟨rfl, rfl, rfl, by simp, fun k _ hk => setRow_other w g k cs (fun e => hk (by rw [e]))⟩

theorem wpList_copy_img {ops : Array Oper} {rest : List Oper} {o : Oper} {a : Act} {Q : Exit → Act → World → Prop} (hgd : o.guard = none) (d s : Operand) (dT sT elem : TypeId)
    (ho : o.op = .call { callee := .builtin .copy, args := #[d, s], argTypes := #[dT, sT] }) (hu : P.underlying dT = some (.slice elem)) (hsz : (P.info? elem).map (·.size) = some 1)
    (g n at_ dLen dCap sCap : Nat) (S : Nat → Bool) (D : Nat → UInt8) (A : Option Addr) (l : List UInt8) (p : Nat → Prop)
    (hd : a.eval d = .slice (some ⟨g, 1025 + at_, none⟩) dLen dCap) (hs : a.eval s = .slice A l.length sCap) (hI : Img w g S n D) (hR : Rd w p A (bs l)) (hl : l.length ≤ dLen) (hfit : at_ + l.length ≤ 65536)
    (h : ∀ w', Img w' g S n (wr D at_ l) → w.grownBy w' (some g) → wpList P ops Q rest (a.put o.dst (goInt l.length)) w') : wpList P ops Q (o :: rest) a w := by
  by_cases h0 : l = []
  · subst h0
    refine wpList_copy_nothing hgd d s dT sT ho elem hu hsz _ A dLen dCap 0 sCap hd hs (Nat.min_eq_left (Nat.zero_le _)) ?_
    exact h w (by rw [wr_nil]; exact hI) (World.grownBy.refl w _)
  · obtain ⟨ad, rfl, _, hsrc⟩ := hR (by simpa [bs] using h0)
    obtain ⟨cur, hg, hi⟩ := id hI
    refine wpList_plain hgd fun K hK => ?_
    have hn : (bs l).length = Nat.min l.length dLen := by rw [bs_length]; exact (Nat.min_eq_left hl).symm
    have hrun := run_copy_row (P := P) w dT sT o.type elem g (1025 + at_) dLen dCap ad l.length sCap cur 63 (bs l) hu hsz hg hn hsrc (by rw [hi.size, bs_length]; omega) (bs_one l)
    unfold Oper.wp
    simp [execOp, ho, resolve, invoke, builtin, hd, hs, hrun, Result.andThen]
    have h2 := hK _ _ (h _ (hI.wr at_ l hfit cur hg) (grownBy_setRow w g _))
    simp [bs_length] at h2
    simp only [bs_length]
    exact h2
end

theorem size5i : (Tryd.prog.info? 5).map (·.size) = some 1 := by kernel_rfl
theorem sliceAt61 (g off a h r q : Nat) (w : World) (lo hi : Option Value) (hlo : lo = none ∧ a = 0 ∨ lo = some (.int .i64 (a : Int))) (hhi : hi = none ∧ h = 65536 ∨ hi = some (.int .i64 (h : Int)))
    (hah : a ≤ h) (hh : h ≤ 65536) (ha : a < 65536) (hr : h = a + r) (hq : a + q = 65536) :
    (Instr.sliceAt 61 (.pointer (some ⟨g, off, none⟩)) lo hi none).run Tryd.prog w = .ok (.slice (some ⟨g, off + a, none⟩) r q) w := by
  have e1 : h - a = r := by omega
  have e2 : 65536 - a = q := by omega
  have e3 : ¬ 65536 = a := by omega
  have hs : ∀ w, (sizeOf 5).run Tryd.prog w = .ok 1 w := fun w => by kernel_rfl
  have hadd : (⟨g, off, none⟩ : Addr).add a = ⟨g, off + a, none⟩ := by
    unfold Addr.add; split
    · rename_i h0; subst h0; rfl
    · rfl
  have b1 : ∀ y (code : BoundsCode), a ≤ y → (Instr.sliceBound (.int .i64 (a : Int)) y code).run Tryd.prog w = .ok a w := fun y code hy => by
    have c1 : (0 : Int) ≤ (a : Int) ∧ (a : Int) ≤ (y : Int) := ⟨by omega, by omega⟩
    simp only [Instr.sliceBound, asIntOf, Sem.run_bind, Sem.run_pure, Result.andThen_ok, if_pos c1, Int.toNat_natCast]
  have b2 : ∀ y (code : BoundsCode), h ≤ y → (Instr.sliceBound (.int .i64 (h : Int)) y code).run Tryd.prog w = .ok h w := fun y code hy => by
    have c1 : (0 : Int) ≤ (h : Int) ∧ (h : Int) ≤ (y : Int) := ⟨by omega, by omega⟩
    simp only [Instr.sliceBound, asIntOf, Sem.run_bind, Sem.run_pure, Result.andThen_ok, if_pos c1, Int.toNat_natCast]
  have hb : (Instr.sliceBounds false 65536 65536 lo hi none).run Tryd.prog w = .ok (a, h, 65536) w := by
    rcases hlo with ⟨rfl, rfl⟩ | rfl <;> rcases hhi with ⟨rfl, rfl⟩ | rfl <;>
      simp [Instr.sliceBounds, b1 _ _ hah, b2 _ _ hh]
  simp only [Instr.sliceAt, run_underlying Tryd.underlying61, Sem.run_bind, Result.andThen_ok, Instr.sureAddr, Sem.run_pure, hb, hs, Nat.mul_one, hadd, if_neg e3, e1, e2]

theorem size5 : (Tryd.prog.info? 5).map (·.size) = some 1 := by kernel_rfl
theorem add_at (b n : Nat) (S : Nat → Bool) (D : Nat → UInt8) (x : Int) (a : Nat) (w : World) (hx : x = (a : Int)) (ha : (a : Int) < 65536) (hn : (n : Int) ≤ 65536) (hI : Img w b S n D) :
    Calls Tryd.prog 29 #[.pointer (some ⟨b, 0, none⟩), .int .i64 x] w fun e w' => e = .returned (.tuple #[]) ∧ Img w' b (ins S a) (n + 1) D ∧ w.grownBy w' (some b) := by
  subst hx
  exact add_any b n S D a w ha hn hI
theorem put_nil (a : Int) (A : Option Addr) (n c : Nat) (w : World) :
    Calls Tryd.prog 13 #[.pointer none, .int .i64 a, .slice A n c] w fun e w' => e = .returned (.int .i64 1) ∧ w = w' := by
  go_enter Tryd.func13, Tryd.ntmps13
  go_wp2
  go_ret
  exact ⟨rfl, rfl⟩
theorem put_range (g : Nat) (a : Int) (A : Option Addr) (n c : Nat) (w : World) (ha : a < 0 ∨ 65536 ≤ a) :
    Calls Tryd.prog 13 #[.pointer (some ⟨g, 0, none⟩), .int .i64 a, .slice A n c] w fun e w' => e = .returned (.int .i64 2) ∧ w = w' := by
  rcases ha with h | h
  · go_enter Tryd.func13, Tryd.ntmps13
    go_wp2
    go_ret
    exact ⟨rfl, rfl⟩
  · have h2 : ¬ a < 0 := by omega
    go_enter Tryd.func13, Tryd.ntmps13
    go_wp2
    go_ret
    exact ⟨rfl, rfl⟩
theorem put_wrap (g a : Nat) (A : Option Addr) (n c : Nat) (w : World) (ha : (a : Int) < 65536) (hn : (65536 : Int) < a + n) (hn2 : (n : Int) ≤ 9223372036854775807) :
    Calls Tryd.prog 13 #[.pointer (some ⟨g, 0, none⟩), .int .i64 a, .slice A n c] w fun e w' => e = .returned (.int .i64 10) ∧ w = w' := by
  have d1 : decide ((a : Int) < 0) = false := by simp
  have d2 : decide ((65536 : Int) ≤ (a : Int)) = false := by simp; omega
  have d3 : decide ((65536 : Int) - (a : Int) < (n : Int)) = true := by rw [decide_eq_true_iff]; omega
  clear hn
  go_enter Tryd.func13, Tryd.ntmps13
  go_wp2
  go_ret
  exact ⟨rfl, rfl⟩
set_option maxRecDepth 100000 in
theorem put_over (g a k : Nat) (S : Nat → Bool) (D : Nat → UInt8) (A : Option Addr) (n c : Nat) (w : World) (ha : (a : Int) < 65536) (hn : (a : Int) + n ≤ 65536)
    (hI : Img w g S k D) (hT : TabAt 0 Lib.deBruijn64tab w) (ho : nxt S a < a + n) :
    Calls Tryd.prog 13 #[.pointer (some ⟨g, 0, none⟩), .int .i64 a, .slice A n c] w fun e w' => e = .returned (.int .i64 4) ∧ w = w' := by
  have HI := Lib.hid hI.word
  have HT := Lib.hid hT
  clear hI hT
  have h1 : ((nxt S a : Nat) : Int) < (a : Int) + n := by omega
  have d1 : decide ((a : Int) < 0) = false := by simp
  have d2 : decide ((65536 : Int) ≤ (a : Int)) = false := by simp; omega
  have d3 : decide ((65536 : Int) - (a : Int) < (n : Int)) = false := by rw [decide_eq_false_iff_not]; omega
  go_enter Tryd.func13, Tryd.ntmps13
  go_wp2_with (go_at_call 28; refine (next_yes g S a _ (by omega) HI.out HT.out).mono ?_; rintro e w' ⟨rfl, rfl⟩)
  go_ret
  exact ⟨rfl, rfl⟩
set_option maxRecDepth 100000 in
theorem put_ok (g a k : Nat) (S : Nat → Bool) (D : Nat → UInt8) (A : Option Addr) (l : List UInt8) (c : Nat) (w : World) (p : Nat → Prop) (ha : (a : Int) < 65536) (hn : (a : Int) + l.length ≤ 65536) (hk : (k : Int) + l.length ≤ 65536)
    (hI : Img w g S k D) (hT : TabAt 0 Lib.deBruijn64tab w) (ho : a + l.length ≤ nxt S a) (hR : Rd w p A (bs l)) :
    Calls Tryd.prog 13 #[.pointer (some ⟨g, 0, none⟩), .int .i64 a, .slice A l.length c] w fun e w' => e = .returned (.int .i64 0) ∧ Img w' g (insR S a l.length) (k + l.length) (wr D a l) ∧ w.grownBy w' (some g) := by
  have HI := Lib.hid hI
  have HT := Lib.hid hT
  have HR := Lib.hid hR
  clear hI hT hR
  obtain ⟨q, hq⟩ : ∃ q, a + q = 65536 := ⟨65536 - a, by omega⟩
  have hsl := fun w => sliceAt61 g 1025 a 65536 q q w (some (.int .i64 (a : Int))) none (.inr rfl) (.inl ⟨rfl, rfl⟩) (by omega) (by omega) (by omega) hq.symm hq
  have HQ := Lib.hid hq
  clear hq
  have h1 : decide (((nxt S a : Nat) : Int) < (a : Int) + l.length) = false := by rw [decide_eq_false_iff_not]; omega
  have d1 : decide ((a : Int) < 0) = false := by simp
  have d2 : decide ((65536 : Int) ≤ (a : Int)) = false := by simp; omega
  have d3 : decide ((65536 : Int) - (a : Int) < (l.length : Int)) = false := by rw [decide_eq_false_iff_not]; omega
  go_enter Tryd.func13, Tryd.ntmps13
  go_wp2_with (first | (go_at_call 28; refine (next_yes g S a _ (by omega) HI.out.word HT.out).mono ?_; rintro e w' ⟨rfl, rfl⟩) | (with_reducible refine wpList_copy_img rfl (.tmp 39) (.tmp 40) 28 28 5 rfl Tryd.underlying28 size5 g k a q q c S D A l p rfl rfl HI.out HR.out (by have := HQ.out; omega) (by omega) ?_; intro w1 hI1 hg1; have HI1 := Lib.hid hI1; have HG1 := Lib.hid hg1; clear hI1 hg1))
  obtain ⟨D', hD'⟩ : ∃ D', wr D a l = D' := ⟨_, rfl⟩
  rw [hD'] at HI1
  have HD := Lib.hid hD'
  clear hD' hsl d1 d2 d3 h1 HQ
  go_loopw [44] (fun v wr => ∃ i : Nat, i ≤ l.length ∧ v = .int .i64 i ∧ Hid (Img wr g (insR S a i) (k + i) D') ∧ Hid (w.grownBy wr (some g))) (fun v _ => l.length - (intOf v).toNat)
  case atStart => exact ⟨0, Nat.zero_le _, rfl, by rw [insR_zero]; exact HI1, HG1⟩
  case round =>
    obtain ⟨i, hi, rfl, hI2, hg2⟩ := hrel
    by_cases hlt : i < l.length
    · go_wp2_with (go_at_call 29; refine (add_at g (k + i) (insR S a i) D' _ (a + i) _ (by omega) (by omega) (by omega) hI2.out).mono ?_; rintro e w3 ⟨rfl, hI3, hg3⟩; have HI3 := Lib.hid hI3; have HG3 := Lib.hid (grownBy_trans hg2.out hg3); clear hI3 hg3)
      go_roundw
      case rel => exact ⟨i + 1, by omega, by go_num, by rw [← insR_succ]; exact HI3, HG3⟩
      case measure => simp [intOf]; omega
    · go_wp2
      go_ret
      have e : i = l.length := by omega
      subst e
      exact ⟨rfl, by rw [HD.out]; exact hI2.out, hg2.out⟩
end Go.Proofs.YtmkgppbnhkihjaaDoor
