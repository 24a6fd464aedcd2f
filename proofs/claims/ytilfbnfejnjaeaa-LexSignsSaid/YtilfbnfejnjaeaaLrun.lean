/- The walks of run and blanks of the cursor of the package lex. -/
import Derived.Test.YtilfbnfejnjaeaaLcur
import Derived.Lib.BufferMore
namespace Go.Proofs.Ytilfbnfejnjaeaa
open Go.RowKit

/-- The cells of a lexer. -/
def lxCells (s : ByteArray) (k : Nat) (t : Tk) : Array Value := #[.string s, .int .i64 (k : Int), .int .i64 (t.kind : Int), .string ⟨t.text.toArray⟩, .int .i64 (t.n : Int), .int .i64 (t.at_ : Int)]
/-- A lexer lies in block b: its line s, its place k, its token t. -/
def LX (w : World) (b : Nat) (s : ByteArray) (k : Nat) (t : Tk) : Prop := w.heap[b]? = some (.cells (lxCells s k t) 105 (0, 0))
section
variable {w w' : World} {b k : Nat} {s : ByteArray} {t : Tk}
theorem LX.lt (h : LX w b s k t) : b < w.heap.size := lt_of_blk h
theorem LX.cell (h : LX w b s k t) : w.cell? ⟨b, 0, none⟩ = some (.string s) ∧ w.cell? ⟨b, 1, none⟩ = some (.int .i64 (k : Int)) ∧ w.cell? ⟨b, 2, none⟩ = some (.int .i64 (t.kind : Int)) ∧ w.cell? ⟨b, 3, none⟩ = some (.string ⟨t.text.toArray⟩) ∧ w.cell? ⟨b, 4, none⟩ = some (.int .i64 (t.n : Int)) ∧ w.cell? ⟨b, 5, none⟩ = some (.int .i64 (t.at_ : Int)) := by
  unfold LX at h
  refine ⟨?_, ?_, ?_, ?_, ?_, ?_⟩ <;> (unfold World.cell?; simp only [h]; rfl)
theorem LX.frozen (h : LX w b s k t) (i : Nat) : w.frozen? ⟨b, i, none⟩ = false := by
  unfold LX at h
  unfold World.frozen?
  simp only [h]
  simp
theorem LX.line (h : LX w b s k t) : w.cell? ⟨b, 0, none⟩ = some (.string s) ∧ w.cell? ⟨b, 1, none⟩ = some (.int .i64 (k : Int)) := ⟨h.cell.1, h.cell.2.1⟩
theorem LX.keep (h : LX w b s k t) (hb : w'.heap[b]? = w.heap[b]?) : LX w' b s k t := hb.trans h
theorem LX.heap (h : LX w b s k t) (hb : w'.heap = w.heap) : LX w' b s k t := h.keep (by rw [hb])
theorem LX.after (h : LX w b s k t) (hb : Below w.heap.size w w') : LX w' b s k t := h.keep (hb.block b h.lt)
theorem LX.grown (h : LX w b s k t) {row : Option Nat} (hg : w.grownBy w' row) (hne : some b ≠ row) : LX w' b s k t := h.keep (hg.block b h.lt hne)
theorem LX.to (h : LX w b s k t) {v : Value} (j : Nat) (hv : v = .int .i64 (j : Int)) : LX (w.setCell ⟨b, 1, none⟩ v) b s j t := by
  subst hv
  exact Lib.heap_setCell_same h _
/-- A new token. -/
theorem LX.tok (h : LX w b s k t) (u : Tk) {v2 v3 v4 v5 : Value} (h2 : v2 = .int .i64 (u.kind : Int)) (h3 : v3 = .string ⟨u.text.toArray⟩) (h4 : v4 = .int .i64 (u.n : Int)) (h5 : v5 = .int .i64 (u.at_ : Int)) :
    LX ((((w.setCell ⟨b, 2, none⟩ v2).setCell ⟨b, 3, none⟩ v3).setCell ⟨b, 4, none⟩ v4).setCell ⟨b, 5, none⟩ v5) b s k u := by
  subst h2 h3 h4 h5
  exact Lib.heap_setCell_same (Lib.heap_setCell_same (Lib.heap_setCell_same (Lib.heap_setCell_same h _) _) _) _
theorem LX.setAt (h : LX w b s k t) {v : Value} (j : Nat) (hv : v = .int .i64 (j : Int)) : LX (w.setCell ⟨b, 5, none⟩ v) b s k ⟨t.kind, t.text, t.n, j⟩ := by
  subst hv
  exact Lib.heap_setCell_same h _
end
theorem grown_refl (w : World) (b : Nat) : w.grownBy w (some b) := World.grownBy.refl w _
theorem grown_step {w W : World} {b : Nat} (h : w.grownBy W (some b)) (i : Nat) (u : Value) : w.grownBy (W.setCell ⟨b, i, none⟩ u) (some b) := grownBy_trans h (grownBy_set W b i u)
theorem grown_tok {w W : World} {b : Nat} (h : w.grownBy W (some b)) (v2 v3 v4 v5 : Value) : w.grownBy ((((W.setCell ⟨b, 2, none⟩ v2).setCell ⟨b, 3, none⟩ v3).setCell ⟨b, 4, none⟩ v4).setCell ⟨b, 5, none⟩ v5) (some b) :=
  grown_step (grown_step (grown_step (grown_step h 2 v2) 3 v3) 4 v4) 5 v5
theorem pkc_at {l : List UInt8} {k : Nat} {c : UInt8} (h : l[k]? = some c) : pkc l k = c := by unfold pkc; rw [h]; rfl
theorem runLen_at {l : List UInt8} {j : Nat} {c : UInt8} (h : l[j]? = some c) : runLen (l.drop j) = if isLD c then runLen (l.drop (j + 1)) + 1 else 0 := by
  have hj := lt_at h
  rw [List.drop_eq_getElem_cons hj, (List.getElem_eq_iff hj).2 h]
  rfl
theorem blankLen_at {l : List UInt8} {j : Nat} {c : UInt8} (h : l[j]? = some c) : blankLen (l.drop j) = if isBl c then blankLen (l.drop (j + 1)) + 1 else 0 := by
  have hj := lt_at h
  rw [List.drop_eq_getElem_cons hj, (List.getElem_eq_iff hj).2 h]
  rfl
theorem runLen_off {l : List UInt8} {j : Nat} (h : l.length ≤ j) : runLen (l.drop j) = 0 := by rw [List.drop_eq_nil_of_le h]; rfl
theorem blankLen_off {l : List UInt8} {j : Nat} (h : l.length ≤ j) : blankLen (l.drop j) = 0 := by rw [List.drop_eq_nil_of_le h]; rfl
/-- The place that a lexer's cell holds. -/
def atOf (w : World) (b : Nat) : Nat := match w.cell? ⟨b, 1, none⟩ with | some v => (intOf v).toNat | none => 0
theorem LX.place {w : World} {b k : Nat} {s : ByteArray} {t : Tk} (h : LX w b s k t) : atOf w b = k := by
  unfold atOf
  rw [h.cell.2.1]
  simp [intOf]
def DrewOk (W : World) (w' : World) : Prop := ∃ m, w' = W.drewN m
theorem LX.drew {w w' : World} {b k : Nat} {s : ByteArray} {t : Tk} (h : LX w b s k t) (hd : DrewOk w w') : LX w' b s k t := by
  obtain ⟨m, rfl⟩ := hd
  exact h
theorem grown_drew {w w1 w' : World} {b : Nat} (h : w.grownBy w1 (some b)) (hd : DrewOk w1 w') : w.grownBy w' (some b) := by
  obtain ⟨m, rfl⟩ := hd
  exact grownBy_drewN h m
theorem lx_next {w W : World} {b j k K n : Nat} {s : ByteArray} {t : Tk} {l : List UInt8} {c : UInt8} (hj : k ≤ j) (hlt : j < s.size) (hX : LX W b s j t) (hR : K = j + runLen (l.drop j)) (hG : w.grownBy W (some b)) (hc : l[j]? = some c) (hl : isLD c = true) :
    ∃ j_1, k ≤ j_1 ∧ j_1 ≤ s.size ∧ Hid (LX ((W.drewN n).setCell ⟨b, 1, none⟩ (.int .i64 ((j : Int) + 1))) b s j_1 t) ∧ Hid (K = j_1 + runLen (l.drop j_1)) ∧ Hid (w.grownBy ((W.drewN n).setCell ⟨b, 1, none⟩ (.int .i64 ((j : Int) + 1))) (some b)) := by
  refine ⟨j + 1, by omega, hlt, LX.to (hX.heap (w' := W.drewN n) rfl) (j + 1) rfl, ?_, grown_step (grownBy_drewN hG n) 1 _⟩
  show _ = _
  rw [hR, runLen_at hc, if_pos hl]
  omega
theorem lx_bnext {w W : World} {b j k K n : Nat} {s : ByteArray} {t : Tk} {l : List UInt8} {c : UInt8} (hj : k ≤ j) (hlt : j < s.size) (hX : LX W b s j t) (hR : K = j + blankLen (l.drop j)) (hG : w.grownBy W (some b)) (hc : l[j]? = some c) (hl : isBl c = true) :
    ∃ j_1, k ≤ j_1 ∧ j_1 ≤ s.size ∧ Hid (LX ((W.drewN n).setCell ⟨b, 1, none⟩ (.int .i64 ((j : Int) + 1))) b s j_1 t) ∧ Hid (K = j_1 + blankLen (l.drop j_1)) ∧ Hid (w.grownBy ((W.drewN n).setCell ⟨b, 1, none⟩ (.int .i64 ((j : Int) + 1))) (some b)) := by
  refine ⟨j + 1, by omega, hlt, LX.to (hX.heap (w' := W.drewN n) rfl) (j + 1) rfl, ?_, grown_step (grownBy_drewN hG n) 1 _⟩
  show _ = _
  rw [hR, blankLen_at hc, if_pos hl]
  omega
theorem lx_less {W : World} {b j n : Nat} {s : ByteArray} {t : Tk} (hlt : j < s.size) (hX : LX W b s j t) : s.size - atOf ((W.drewN n).setCell ⟨b, 1, none⟩ (.int .i64 ((j : Int) + 1))) b < s.size - atOf W b := by
  have := (LX.to (hX.heap (w' := W.drewN n) rfl) (v := .int .i64 ((j : Int) + 1)) (j + 1) rfl).place
  rw [hX.place, this]
  omega
/-- A callee that only reads, in a region behind one that has drawn. -/
theorem quiet_more {P : Program} {f : FuncId} {args : Array Value} {w : World} {a n : Nat} {v : Value} (h : Calls P f args (w.drewN (a + n)) fun e w' => e = .returned v ∧ ∃ m, w' = (w.drewN (a + n)).drewN m) :
    Calls P f args (w.drewN (a + n)) fun e w' => e = .returned v ∧ ∃ m, w' = w.drewN (a + m) :=
  h.mono fun _ _ ⟨he, m, hm⟩ => ⟨he, n + m, by rw [hm, World.drewN_drewN, Nat.add_assoc]⟩
theorem byte_ne {c d : UInt8} (h : c ≠ d) {z : Int} (hz : (d.toNat : Int) = z) : ((c.toNat : Int) == z) = false := by
  rw [beq_eq_false_iff_ne, ← hz]
  intro h2
  exact h (UInt8.toNat_inj.1 (by omega))
set_option maxHeartbeats 1000000 in
theorem run_any (b k : Nat) (s : ByteArray) (t : Tk) (w : World) (hs : (s.size : Int) ≤ 140737488355328) (hk : k ≤ s.size) (h : LX w b s k t) :
    Calls Try.prog 78 #[.pointer (some ⟨b, 0, none⟩)] w fun e w' => e = .returned (.string (s.extract k (k + runLen (s.data.toList.drop k)))) ∧ LX w' b s (k + runLen (s.data.toList.drop k)) t ∧ w.grownBy w' (some b) := by
  obtain ⟨l, hl⟩ : ∃ l, s.data.toList = l := ⟨_, rfl⟩
  have HA : Hid (∀ j (h : j < s.size), ∃ c : UInt8, s[j] = c ∧ l[j]? = some c) := by subst hl; exact fun j h => str_at s h
  have HL : Hid (l.length = s.size) := by rw [Hid, ← hl]; exact str_len s
  have CP : Hid (∀ (W W' : World) (j : Nat), j ≤ s.size → LX W b s j t → W'.heap = W.heap → Calls Try.prog 77 #[.pointer (some ⟨b, 0, none⟩)] W' fun e w' => e = .returned (.int .u8 ((pkc l j).toNat : Int)) ∧ ∃ m, w' = W'.drewN m) := fun W W' j hj hx hW => by
    subst hl
    exact peek_any b 0 j s W' hs hj (hx.heap hW).line.1 (hx.heap hW).line.2
  have CL : Hid (∀ (c : UInt8) (W : World), Calls Try.prog 76 #[.int .u8 (c.toNat : Int)] W fun e w' => e = .returned (.bool (isL c)) ∧ w' = W) := fun c W => (letter_any c W).mono fun e w' h => ⟨h.1, h.2.symm⟩
  have CD : Hid (∀ (c : UInt8) (W : World), Calls Try.prog 96 #[.int .u8 (c.toNat : Int)] W fun e w' => e = .returned (.bool (isD c)) ∧ w' = W) := fun c W => (digit_lex c W).mono fun e w' h => ⟨h.1, h.2.symm⟩
  obtain ⟨h0, h1⟩ := h.line
  have H := Lib.hid h
  rw [hl]
  obtain ⟨K, hK⟩ : ∃ K, k + runLen (l.drop k) = K := ⟨_, rfl⟩
  have HK := Lib.hid hK
  rw [hK]
  clear hl h hK
  go_enter Try.func78, Try.ntmps78
  go_wp2
  clear h0 h1
  go_loopw [] (fun wr => ∃ j, k ≤ j ∧ j ≤ s.size ∧ Hid (LX wr b s j t) ∧ Hid (K = j + runLen (l.drop j)) ∧ Hid (w.grownBy wr (some b))) (fun wr => s.size - atOf wr b)
  case atStart => exact ⟨k, Nat.le_refl _, hk, H, HK.out.symm, grown_refl w b⟩
  case round =>
    obtain ⟨j, hkj, hj, hX, hR, hG⟩ := hrel
    obtain ⟨h0, h1⟩ := hX.out.line
    have hf := hX.out.frozen 1
    have HM := Lib.hid (hX.out.place)
    by_cases hlt : j < s.size
    · have hji : (j : Int) < (s.size : Int) := by omega
      obtain ⟨c, hc, hlc⟩ := HA.out j hlt
      have HC := Lib.hid hlc
      have CP' : Hid (∀ W : World, W.heap = wr.heap → Calls Try.prog 77 #[.pointer (some ⟨b, 0, none⟩)] W fun e w' => e = .returned (.int .u8 (c.toNat : Int)) ∧ ∃ m, w' = W.drewN m) := fun W hW => by
        have := CP.out wr W j hj hX.out hW
        rw [pkc_at hlc] at this
        exact this
      have CL' := Lib.hid (CL.out c)
      have CD' := Lib.hid (CD.out c)
      clear hlc
      by_cases hld : isLD c = true
      · have HLD := Lib.hid hld
        rcases hb : isL c with _ | _
        · have hd : isD c = true := by
            unfold isLD at hld
            rw [hb] at hld
            exact hld
          rw [hb] at CL'
          rw [hd] at CD'
          clear hld hb hd
          go_wp2
          go_quiet (first
            | (go_at_call 77; exact Calls.quiet_of (CP'.out _ rfl))
            | (go_at_call 76; exact Calls.quiet_of_same (CL'.out _))
            | (go_at_call 96; exact Calls.quiet_of_same (CD'.out _)))
          go_wp2
          go_round
          case rel => exact lx_next hkj hlt hX.out hR.out hG.out HC.out HLD.out
          case measure => exact lx_less hlt hX.out
        · rw [hb] at CL'
          clear hld hb
          go_wp2
          go_quiet (first
            | (go_at_call 77; exact Calls.quiet_of (CP'.out _ rfl))
            | (go_at_call 76; exact Calls.quiet_of_same (CL'.out _))
            | (go_at_call 96; exact Calls.quiet_of_same (CD'.out _)))
          go_wp2
          go_round
          case rel => exact lx_next hkj hlt hX.out hR.out hG.out HC.out HLD.out
          case measure => exact lx_less hlt hX.out
      · have hb : isL c = false ∧ isD c = false := by
          unfold isLD at hld
          simpa using hld
        obtain rfl : K = j := by
          rw [hR.out, runLen_at HC.out, if_neg hld]
          rfl
        rw [hb.1] at CL'
        rw [hb.2] at CD'
        clear hld hb
        go_wp2
        go_quiet (first
          | (go_at_call 77; exact Calls.quiet_of (CP'.out _ rfl))
          | (go_at_call 76; exact Calls.quiet_of_same (CL'.out _))
          | (go_at_call 96; exact Calls.quiet_of_same (CD'.out _)))
        go_wp2
        go_quiet (fail)
        go_wp2
        go_ret
        exact ⟨rfl, hX.out, grownBy_drewN (grownBy_drewN hG.out _) _⟩
    · have hji : (s.size : Int) ≤ (j : Int) := by omega
      have hjs : (j : Int) ≤ (s.size : Int) := by omega
      have hki : (k : Int) ≤ (j : Int) := by omega
      obtain rfl : K = j := by
        rw [hR.out, runLen_off (by have := HL.out; omega)]
        rfl
      go_wp2
      go_quiet (fail)
      go_wp2
      go_quiet (fail)
      go_wp2
      go_ret
      exact ⟨rfl, hX.out, grownBy_drewN (grownBy_drewN hG.out _) _⟩
set_option maxHeartbeats 1000000 in
theorem blanks_any (b k : Nat) (s : ByteArray) (t : Tk) (w : World) (hs : (s.size : Int) ≤ 140737488355328) (hk : k ≤ s.size) (h : LX w b s k t) :
    Calls Try.prog 58 #[.pointer (some ⟨b, 0, none⟩)] w fun e w' => e = .returned (.bool (!isEnd ((s.data.toList.drop k).drop (blankLen (s.data.toList.drop k))))) ∧ LX w' b s (k + blankLen (s.data.toList.drop k)) t ∧ w.grownBy w' (some b) := by
  obtain ⟨l, hl⟩ : ∃ l, s.data.toList = l := ⟨_, rfl⟩
  have HA : Hid (∀ j (h : j < s.size), ∃ c : UInt8, s[j] = c ∧ l[j]? = some c) := by subst hl; exact fun j h => str_at s h
  have HL : Hid (l.length = s.size) := by rw [Hid, ← hl]; exact str_len s
  have CP : Hid (∀ (W W' : World) (j : Nat), j ≤ s.size → LX W b s j t → W'.heap = W.heap → Calls Try.prog 77 #[.pointer (some ⟨b, 0, none⟩)] W' fun e w' => e = .returned (.int .u8 ((pkc l j).toNat : Int)) ∧ ∃ m, w' = W'.drewN m) := fun W W' j hj hx hW => by
    subst hl
    exact peek_any b 0 j s W' hs hj (hx.heap hW).line.1 (hx.heap hW).line.2
  have H := Lib.hid h
  rw [hl, List.drop_drop]
  obtain ⟨K, hK⟩ : ∃ K, k + blankLen (l.drop k) = K := ⟨_, rfl⟩
  have HK := Lib.hid hK
  rw [hK]
  obtain ⟨B, hB⟩ : ∃ B, (!isEnd (l.drop K)) = B := ⟨_, rfl⟩
  have HB := Lib.hid hB
  rw [hB]
  clear hl h hK hB
  go_enter Try.func58, Try.ntmps58
  go_wp2
  go_loopw [] (fun wr => ∃ j, k ≤ j ∧ j ≤ s.size ∧ Hid (LX wr b s j t) ∧ Hid (K = j + blankLen (l.drop j)) ∧ Hid (w.grownBy wr (some b))) (fun wr => s.size - atOf wr b)
  case atStart => exact ⟨k, Nat.le_refl _, hk, H, HK.out.symm, grown_refl w b⟩
  case round =>
    obtain ⟨j, hkj, hj, hX, hR, hG⟩ := hrel
    obtain ⟨h0, h1⟩ := hX.out.line
    have hf := hX.out.frozen 1
    by_cases hlt : j < s.size
    · have hji : (j : Int) < (s.size : Int) := by omega
      obtain ⟨c, hc, hlc⟩ := HA.out j hlt
      have HC := Lib.hid hlc
      have CP' : Hid (∀ W : World, W.heap = wr.heap → Calls Try.prog 77 #[.pointer (some ⟨b, 0, none⟩)] W fun e w' => e = .returned (.int .u8 (c.toNat : Int)) ∧ ∃ m, w' = W.drewN m) := fun W hW => by
        have := CP.out wr W j hj hX.out hW
        rw [pkc_at hlc] at this
        exact this
      clear hlc
      by_cases h32 : c = 32
      · have HLD : Hid (isBl c = true) := by rw [h32]; rfl
        have d1 : ((c.toNat : Int) == 32) = true := by rw [h32]; rfl
        clear h32
        go_wp2
        go_quiet ((go_at_call 77; exact Calls.quiet_of (CP'.out _ rfl)))
        go_wp2
        go_round
        case rel => exact lx_bnext hkj hlt hX.out hR.out hG.out HC.out HLD.out
        case measure => exact lx_less hlt hX.out
      · have d1 : ((c.toNat : Int) == 32) = false := byte_ne h32 (by decide)
        by_cases h9 : c = 9
        · have HLD : Hid (isBl c = true) := by rw [h9]; rfl
          have d2 : ((c.toNat : Int) == 9) = true := by rw [h9]; rfl
          clear h32 h9
          go_wp2
          go_quiet ((go_at_call 77; exact Calls.quiet_of (CP'.out _ rfl)))
          go_wp2
          go_round
          case rel => exact lx_bnext hkj hlt hX.out hR.out hG.out HC.out HLD.out
          case measure => exact lx_less hlt hX.out
        · have d2 : ((c.toNat : Int) == 9) = false := byte_ne h9 (by decide)
          obtain rfl : K = j := by
            rw [hR.out, blankLen_at HC.out, if_neg (by unfold isBl; simp [h32, h9])]
            rfl
          have HE : Hid (isEnd (l.drop K) = (c == 59)) := by
            show _ = _
            have hj' := lt_at HC.out
            rw [List.drop_eq_getElem_cons hj', (List.getElem_eq_iff hj').2 HC.out]
            rfl
          clear h32 h9
          by_cases h59 : c = 59
          · have d3 : ((c.toNat : Int) != 59) = false := by rw [h59]; rfl
            obtain rfl : B = false := by rw [← HB.out, HE.out, h59]; rfl
            clear h59
            go_wp2
            go_quiet ((go_at_call 77; exact Calls.quiet_of (CP'.out _ rfl)))
            go_wp2
            go_quiet ((go_at_call 77; exact quiet_more (CP'.out _ rfl)))
            go_wp2
            go_ret
            exact ⟨rfl, hX.out, grownBy_drewN (grownBy_drewN hG.out _) _⟩
          · have d3 : ((c.toNat : Int) != 59) = true := by rw [bne, byte_ne h59 (z := 59) (by decide)]; rfl
            obtain rfl : B = true := by rw [← HB.out, HE.out]; simp [h59]
            clear h59
            go_wp2
            go_quiet ((go_at_call 77; exact Calls.quiet_of (CP'.out _ rfl)))
            go_wp2
            go_quiet ((go_at_call 77; exact quiet_more (CP'.out _ rfl)))
            go_wp2
            go_ret
            exact ⟨rfl, hX.out, grownBy_drewN (grownBy_drewN hG.out _) _⟩
    · have hji : (s.size : Int) ≤ (j : Int) := by omega
      obtain rfl : K = j := by
        rw [hR.out, blankLen_off (by have := HL.out; omega)]
        rfl
      obtain rfl : B = false := by
        rw [← HB.out, List.drop_eq_nil_of_le (by have := HL.out; omega)]
        rfl
      go_wp2
      go_quiet (fail)
      go_wp2
      go_quiet (fail)
      go_wp2
      go_ret
      exact ⟨rfl, hX.out, grownBy_drewN (grownBy_drewN hG.out _) _⟩
end Go.Proofs.Ytilfbnfejnjaeaa
