/- The walk of the method Runs of an image, once more: the bytes of its runs lie in blocks of which no cell is frozen. -/
import Derived.Test.YtmkgppbnhkihjaaDoorRput2
namespace Go.Proofs.YtmkgppbnhkihjaaDoor
open Go.RowKit Go.Shelf

/-- No cell of block q is frozen. -/
def NF (w : World) (q : Nat) : Prop := ∀ k, w.frozen? ⟨q, k, none⟩ = false
theorem NF.keep {w w' : World} {q : Nat} (h : NF w q) (hb : w'.heap[q]? = w.heap[q]?) : NF w' q := fun k => (World.frozen?_of_block (w := w) hb).trans (h k)
theorem rd_nf {w : World} {base n c : Nat} {size : Nat} {A : Option Addr} {xs : List Value} (h : w.ownsRow base 5 size (.slice A n c) n xs) : Rd w (fun q => base ≤ q ∧ NF w q) A xs :=
  (Rd.own_at h).mono fun q _ hq => ⟨hq.1, fun k => by
    obtain ⟨_, hr⟩ := h
    rcases hr with ⟨hv, _⟩ | ⟨g, cap, cur, hv, _, hg, _⟩
    · rw [hv] at hq; cases hq.2
    · rw [hv] at hq
      have e : g = q := Option.some.inj hq.2
      subst e
      simp [World.frozen?, hg]⟩
theorem run_push2 {base : Nat} {wr w1 w2 : World} {e : TypeId} {size n : Nat} {v v2 : Value} {o : Obj} {xs : List Value} {R : List (Int × List UInt8)} {a : Int} {d : List UInt8} {A1 : Option Addr} {c1 : Nat}
    (hown : wr.ownsRow base e size v n xs) (hrv : RunVals wr (fun q => base ≤ q ∧ some q ≠ v.ownBlock ∧ NF wr q) xs R) (hb1 : Below wr.heap.size wr w1) (hd : Rd w1 (fun q => wr.heap.size ≤ q ∧ NF w1 q) A1 (bs d))
    (hg2 : (w1.alloc o).grownBy w2 v.ownBlock) (hat : v2.ownBlock = v.ownBlock ∨ v2.ownBlock = some (w1.alloc o).heap.size) (hbase : base ≤ wr.heap.size) :
    RunVals w2 (fun q => base ≤ q ∧ some q ≠ v2.ownBlock ∧ NF w2 q) (xs ++ [.int .i64 a, .slice A1 d.length c1]) (R ++ [(a, d)]) := by
  have hsz := hb1.size
  have key : ∀ i, i < w1.heap.size → some i ≠ v.ownBlock → some i ≠ v2.ownBlock ∧ w2.heap[i]? = w1.heap[i]? := fun i hi hne => by
    refine ⟨?_, (hg2.block i (by simp; omega) hne).trans (Below.heap_alloc w1 o i hi)⟩
    rcases hat with h | h <;> rw [h]
    · exact hne
    · intro e
      have := Option.some.inj e
      simp at this; omega
  refine (hrv.move fun i hi hp => ?_).snoc (hd.move fun i hi hp => ?_)
  · obtain ⟨k1, k2⟩ := key i (by omega) hp.2.1
    exact ⟨⟨hp.1, k1, hp.2.2.keep (k2.trans (hb1.block i hi))⟩, k2.trans (hb1.block i hi)⟩
  · obtain ⟨k1, k2⟩ := key i hi (fun e => by have := (hown.lt i e.symm).2; omega)
    exact ⟨⟨by omega, k1, hp.2.keep k2⟩, k2⟩

/-- What the method Runs hands back. -/
def RunsNF (w : World) (S : Nat → Bool) (D : Nat → UInt8) (e : Ending) (w' : World) : Prop :=
  ∃ v R xs, e = .returned v ∧ flat R = seg S D 0 65536 ∧ Gp R 65537 ∧ w'.ownsRow w.heap.size 39 2 v R.length xs ∧ RunVals w' (fun q => w.heap.size ≤ q ∧ NF w' q) xs (ri R) ∧ Below w.heap.size w w'
set_option maxRecDepth 100000 in
theorem runs_nf (g n : Nat) (S : Nat → Bool) (D : Nat → UInt8) (w : World) (hI : Img w g S n D) (hT : Tab w) :
    Calls Tryd.prog 21 #[.pointer (some ⟨g, 0, none⟩)] w (RunsNF w S D) := by
  have HI := Lib.hid hI
  have HT := Lib.hid hT
  clear hI hT
  obtain ⟨f0, hf0⟩ : ∃ f0, nxt S 0 = f0 := ⟨_, rfl⟩
  have hc := next_yes g S 0 w (by omega) HI.out.word HT.out
  rw [hf0] at hc
  have HC := Lib.hid hc
  have HF := Lib.hid hf0
  have hle : f0 ≤ 65536 := by rw [← hf0]; exact (nxt_spec S 0 (by omega)).le
  have HL := Lib.hid hle
  clear hc hf0 hle
  go_enter Tryd.func21, Tryd.ntmps21
  go_wp2_with (go_at_call 28; refine HC.out.mono ?_; rintro e w' ⟨rfl, rfl⟩)
  go_loopw [3, 4] (fun u v wr => ∃ (k : Nat) (R : List (Nat × List UInt8)) (xs : List Value), v = .int .i64 k ∧ Hid (k ≤ 65536) ∧ Hid (k < 65536 → S k = true) ∧ Hid (flat R = seg S D 0 k) ∧ Hid (Gp R (bnd k)) ∧
      Hid (R.length ≤ k) ∧ Hid (wr.ownsRow w.heap.size 39 2 u R.length xs) ∧ Hid (RunVals wr (fun q => w.heap.size ≤ q ∧ some q ≠ u.ownBlock ∧ NF wr q) xs (ri R)) ∧ Hid (Below w.heap.size w wr)) (fun _ v _ => top - (intOf v).toNat)
  case atStart =>
    have h1 := nxt_spec S 0 (by omega)
    rw [HF.out] at h1
    refine ⟨f0, [], [], rfl, h1.le, h1.yes, ?_, trivial, Nat.zero_le _, World.ownsRow_nil _ _ _ _, RunVals.nil _ _, Below.refl _ _⟩
    exact (seg_none S D 0 f0 (fun x _ g2 => h1.no x (Nat.zero_le _) (by omega))).symm
  case round =>
    obtain ⟨k, R, xs, rfl, hk, hS, hfl, hg, hlen, hown, hrv, hb⟩ := hrel
    by_cases hlt : (k : Int) < 65536
    · obtain ⟨t, ht⟩ : ∃ t, nxt (fun x => !S x) k = t := ⟨_, rfl⟩
      obtain ⟨f, hf⟩ : ∃ f, nxt S t = f := ⟨_, rfl⟩
      have hgk : Gp R k := by have := hg.out; unfold bnd at this; rwa [if_pos (by omega)] at this
      obtain ⟨r1, r2, r3, r4, r5, r6, r7⟩ := runs_round (by omega) (hS.out (by omega)) ht hf hfl.out hgk
      obtain ⟨r, hr⟩ : ∃ r, t - k = r := ⟨_, rfl⟩
      obtain ⟨q, hq⟩ : ∃ q, k + q = 65536 := ⟨65536 - k, by omega⟩
      have hsl := fun w => sliceAt61 g 1025 k t r q w (some (.int .i64 (k : Int))) (some (.int .i64 (t : Int))) (.inr rfl) (.inr rfl) (by omega) (by omega) (by omega) (by omega) hq
      rw [hr] at r6 r7
      have R6 := Lib.hid r6
      have R7 := Lib.hid r7
      have R5 := Lib.hid r5
      have R4 := Lib.hid r4
      have R3 := Lib.hid (show k < f by omega)
      have HR := Lib.hid (show r = t - k from hr.symm)
      have HT2 := Lib.hid (show t ≤ 65536 ∧ k < t from ⟨r2, r1⟩)
      have C1 : Hid (∀ W, Img W g S n D → Tab W → Calls Tryd.prog 28 #[.pointer (some ⟨g, 0, none⟩), .int .i64 k, .bool false] W fun e w' => e = .returned (.int .i64 t) ∧ W = w') := fun W h1 h2 => by
        have := next_no g S k W hk.out h1.word h2
        rw [ht] at this
        exact this
      have C2 : Hid (∀ W, Img W g S n D → Tab W → Calls Tryd.prog 28 #[.pointer (some ⟨g, 0, none⟩), .int .i64 t, .bool true] W fun e w' => e = .returned (.int .i64 f) ∧ W = w') := fun W h1 h2 => by
        have := next_yes g S t W r2 h1.word h2
        rw [hf] at this
        exact this
      have C3 : Hid (∀ W, Img W g S n D → Calls Tryd.prog 32 #[.slice (some ⟨g, 1025 + k, none⟩) r q] W fun e w' => ∃ v, e = .returned v ∧ w'.ownsRow W.heap.size 5 1 v (ds D k r).length (bs (ds D k r)) ∧ Below W.heap.size W w') := fun W h1 =>
        clone_any _ (ds D k r) r q W (fun i => i = g) (ds_length D k r).symm (by rw [ds_length]; have := HT2.out; omega) (bytes_seg h1 k r (by have := HT2.out; omega))
      have hI1 := Lib.hid (HI.out.below hb.out HI.out.lt)
      have hT1 := Lib.hid (HT.out.below hb.out HT.out.pos)
      obtain ⟨A3, c3, rfl, _⟩ := own_form hown.out
      clear ht hf hgk r1 r2 r3 r4 r5 r6 r7 hr hq
      go_wp2_with (first
        | (go_at_call 28; (with_reducible refine (C1.out _ hI1.out hT1.out).mono ?_); rintro e w' ⟨rfl, rfl⟩)
        | (go_at_call 32; refine (C3.out _ hI1.out).mono ?_; rintro e w1 ⟨v1, rfl, ho1, hb1⟩; obtain ⟨A1, c1, rfl, _⟩ := own_form ho1; have HO1 := Lib.hid ho1; have HB1 := Lib.hid hb1; have HOW := Lib.hid (own_over hown.out hb1); have HBW := Lib.hid (hb.out.trans (hb1.mono hb.out.size)); clear ho1 hb1)
        | (at_builtin; refine wpList_app el36 rfl (.tmp 19) (.tmp 29) rfl w.heap.size _ R.length xs (fun _ => True) _ 1 1 [.int .i64 (k : Int), .slice A1 (ds D k r).length c1] rfl rfl (HOW.out.alloc _) rfl (Rd.new _ _ _ trivial) (by intro u hu; simp at hu; rcases hu with rfl | rfl <;> rfl) (by have := hlen.out; simp only [maxLen]; omega) (by have := hlen.out; omega) (by simp; have := HBW.out.size; omega) ?_; intro v2 w2 hown2 hg2 hat2 hz2; have HO2 := Lib.hid hown2; have HB2 := Lib.hid ((HBW.out.alloc HBW.out.size _).grown hg2 (by simp; have := HBW.out.size; omega) (fun q hq => (hown.out.lt q hq).1)); have HRV := Lib.hid (run_push2 (a := (k : Int)) (c1 := c1) hown.out hrv.out HB1.out (rd_nf HO1.out) hg2 hat2 hb.out.size); have hI2 := Lib.hid (HI.out.below HB2.out HI.out.lt); have hT2 := Lib.hid (HT.out.below HB2.out HT.out.pos); clear hown2 hg2 hat2 hz2)
        | (go_at_call 28; (with_reducible refine (C2.out _ hI2.out hT2.out).mono ?_); rintro e w' ⟨rfl, rfl⟩))
      go_roundw
      case rel => exact ⟨f, R ++ [(k, ds D k r)], _, rfl, R4.out, R5.out, R6.out, R7.out, len_snoc hlen.out R3.out, by rw [List.length_append]; exact HO2.out, by rw [ri_snoc]; exact HRV.out, HB2.out⟩
      case measure => have := R3.out; have := R4.out; unfold top; simp only [intOf]; omega
    · have e : k = 65536 := by have := hk.out; omega
      subst e
      go_wp2
      go_ret
      have hg2 := hg.out
      unfold bnd at hg2
      rw [if_neg (by omega)] at hg2
      exact ⟨_, R, xs, rfl, hfl.out, hg2, hown.out, hrv.out.mono (fun i _ h => ⟨h.1, h.2.2⟩), hb.out⟩
end Go.Proofs.YtmkgppbnhkihjaaDoor
