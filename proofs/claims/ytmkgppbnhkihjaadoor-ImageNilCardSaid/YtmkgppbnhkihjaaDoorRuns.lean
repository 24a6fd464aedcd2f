/- The walk of the method Runs of an image. -/
import Derived.Test.YtmkgppbnhkihjaaDoorPut
import Derived.Test.YtmkgppbnhkihjaaDoorSli
import Derived.Test.YtmkgppbnhkihjaaDoorRunv
namespace Go.Proofs.YtmkgppbnhkihjaaDoor
open Go.RowKit Go.Shelf

theorem el36 : El Tryd.prog 36 39 (.agg #[.int .i64 0, .slice none 0 0]) 2 32 := ⟨Tryd.underlying36, by kernel_rfl, rfl, by decide⟩

def Tab (w : World) : Prop := TabAt 0 Lib.deBruijn64tab w
theorem tab_len : 0 < Lib.deBruijn64tab.length := by decide
theorem Tab.pos {w : World} (h : Tab w) : 0 < w.heap.size := lt_of_cell (h 0 tab_len)
theorem Tab.keep {w w' : World} (h : Tab w) (hb : w'.heap[0]? = w.heap[0]?) : Tab w' := fun j hj => (World.cell?_of_block (w := w) hb).trans (h j hj)
theorem Tab.below {w w' : World} {B : Nat} (h : Tab w) (hb : Below B w w') (hB : 0 < B) : Tab w' := h.keep (hb.block 0 hB)
theorem Tab.after {w w' : World} (h : Tab w) (hb : Below w.heap.size w w') : Tab w' := h.below hb h.pos
theorem Tab.ne {w : World} {g n : Nat} {S : Nat → Bool} {D : Nat → UInt8} (h : Tab w) (hI : Img w g S n D) : g ≠ 0 := by
  rintro rfl
  have h1 := h 0 tab_len
  have h2 := hI.word 0 (by decide)
  rw [h1] at h2
  injection h2 with h2
  injection h2 with h2
  cases h2
theorem Img.below {w w' : World} {g n B : Nat} {S : Nat → Bool} {D : Nat → UInt8} (h : Img w g S n D) (hb : Below B w w') (hB : g < B) : Img w' g S n D := h.of_block (hb.block g hB)
theorem Img.after {w w' : World} {g n : Nat} {S : Nat → Bool} {D : Nat → UInt8} (h : Img w g S n D) (hb : Below w.heap.size w w') : Img w' g S n D := h.below hb h.lt

theorem bytes_seg {w : World} {g n : Nat} {S : Nat → Bool} {D : Nat → UInt8} (h : Img w g S n D) (a r : Nat) (hr : a + r ≤ 65536) : Rd w (fun q => q = g) (some ⟨g, 1025 + a, none⟩) (bs (ds D a r)) := fun _ => by
  refine ⟨_, rfl, rfl, fun j u hu => ?_⟩
  have e : (⟨g, 1025 + a, none⟩ : Addr).add j = ⟨g, 1025 + (a + j), none⟩ := by
    unfold Addr.add; split
    · rename_i h0; subst h0; rfl
    · simp; omega
  have key : ∀ r a j u, (bs (ds D a r))[j]? = some u → j < r ∧ u = .int .u8 (D (a + j)).toNat := by
    intro r
    induction r with
    | zero => intro a j u h; simp [ds, bs] at h
    | succ r ih =>
      intro a j u h
      cases j with
      | zero => simp [ds, bs] at h; exact ⟨by omega, h.symm⟩
      | succ j =>
        have := ih (a + 1) j u (by simpa [ds, bs] using h)
        exact ⟨by omega, by rw [this.2, show a + 1 + j = a + (j + 1) from by omega]⟩
  obtain ⟨h1, rfl⟩ := key r a j u hu
  rw [e]
  exact h.byte (a + j) (by omega)
theorem ds_length (D : Nat → UInt8) (a n : Nat) : (ds D a n).length = n := by
  induction n generalizing a with
  | zero => rfl
  | succ n ih => simp [ds, ih]

/-- A bound behind the runs that end ahead of the address k. -/
def bnd (k : Nat) : Nat := if k < 65536 then k else 65537
theorem runs_round {S : Nat → Bool} {D : Nat → UInt8} {k t f : Nat} {R : List (Nat × List UInt8)} (hk : k < 65536) (hS : S k = true) (ht : nxt (fun x => !S x) k = t) (hf : nxt S t = f)
    (hfl : flat R = seg S D 0 k) (hg : Gp R k) : k < t ∧ t ≤ 65536 ∧ t ≤ f ∧ f ≤ 65536 ∧ (f < 65536 → S f = true) ∧ flat (R ++ [(k, ds D k (t - k))]) = seg S D 0 f ∧ Gp (R ++ [(k, ds D k (t - k))]) (bnd f) := by
  have h1 := nxt_spec (fun x => !S x) k (by omega)
  rw [ht] at h1
  have h2 := nxt_spec S t h1.le
  rw [hf] at h2
  have hkt : k < t := by
    rcases Nat.eq_or_lt_of_le h1.ge with e | e
    · have := h1.yes (by omega)
      rw [← e, hS] at this; cases this
    · exact e
  refine ⟨hkt, h1.le, h2.ge, h2.le, h2.yes, ?_, ?_⟩
  · have e : f = k + (t - k) + (f - t) := by have := h2.ge; omega
    rw [flat_snoc, hfl, e, seg_add, seg_add, Nat.zero_add, Nat.zero_add]
    rw [seg_none S D (k + (t - k)) (f - t) (fun x g1 g2 => h2.no x (by omega) (by omega)), List.append_nil]
    rw [seg_all S D k (t - k) (fun x g1 g2 => by have := h1.no x g1 (by omega); simpa using this)]
  · refine hg.snoc (fun e => ?_) ?_
    · have := ds_length D k (t - k)
      rw [e] at this
      simp at this; omega
    · rw [ds_length]
      unfold bnd
      split
      · rename_i hlt
        have h3 : t ≠ f := fun e => by
          have h4 := h1.yes (by omega)
          rw [e, h2.yes hlt] at h4; cases h4
        have := h2.ge
        omega
      · have := h1.le; omega

/-- nil has no runs. -/
theorem runs_nil (w : World) : Calls Tryd.prog 21 #[.pointer none] w fun e w' => e = .returned (.slice none 0 0) ∧ w = w' := by
  go_enter Tryd.func21, Tryd.ntmps21
  go_wp2
  go_ret
  exact ⟨rfl, rfl⟩

theorem len_snoc {α : Type} {R : List α} {x : α} {k f : Nat} (h : R.length ≤ k) (hf : k < f) : (R ++ [x]).length ≤ f := by simp; omega
/-- What the method Runs hands back. -/
def RunsPost (w : World) (S : Nat → Bool) (D : Nat → UInt8) (e : Ending) (w' : World) : Prop :=
  ∃ v R xs, e = .returned v ∧ flat R = seg S D 0 65536 ∧ Gp R 65537 ∧ w'.ownsRow w.heap.size 39 2 v R.length xs ∧ RunVals w' (fun q => w.heap.size ≤ q) xs (ri R) ∧ Below w.heap.size w w'
set_option maxRecDepth 100000 in
theorem runs_any (g n : Nat) (S : Nat → Bool) (D : Nat → UInt8) (w : World) (hI : Img w g S n D) (hT : Tab w) :
    Calls Tryd.prog 21 #[.pointer (some ⟨g, 0, none⟩)] w (RunsPost w S D) := by
  have HI := Lib.hid hI
  have HT := Lib.hid hT
  clear hI hT
  obtain ⟨f0, hf0⟩ : ∃ f0, nxt S 0 = f0 := ⟨_, rfl⟩
  have hc := next_yes g S 0 w (by omega) HI.out.word HT.out
  rw [hf0] at hc
  have HC := Lib.hid hc
  have HF := Lib.hid hf0
  have hle : f0 ≤ 65536 := by rw [← hf0]; exact (nxt_spec S 0 (by omega)).le
  have HL := Lib.hid hle
  clear hc hf0 hle
  go_enter Tryd.func21, Tryd.ntmps21
  go_wp2_with (go_at_call 28; refine HC.out.mono ?_; rintro e w' ⟨rfl, rfl⟩)
  go_loopw [3, 4] (fun u v wr => ∃ (k : Nat) (R : List (Nat × List UInt8)) (xs : List Value), v = .int .i64 k ∧ Hid (k ≤ 65536) ∧ Hid (k < 65536 → S k = true) ∧ Hid (flat R = seg S D 0 k) ∧ Hid (Gp R (bnd k)) ∧
      Hid (R.length ≤ k) ∧ Hid (wr.ownsRow w.heap.size 39 2 u R.length xs) ∧ Hid (RunVals wr (fun q => w.heap.size ≤ q ∧ some q ≠ u.ownBlock) xs (ri R)) ∧ Hid (Below w.heap.size w wr)) (fun _ v _ => top - (intOf v).toNat)
  case atStart =>
    have h1 := nxt_spec S 0 (by omega)
    rw [HF.out] at h1
    refine ⟨f0, [], [], rfl, h1.le, h1.yes, ?_, trivial, Nat.zero_le _, World.ownsRow_nil _ _ _ _, RunVals.nil _ _, Below.refl _ _⟩
    exact (seg_none S D 0 f0 (fun x _ g2 => h1.no x (Nat.zero_le _) (by omega))).symm
  case round =>
    obtain ⟨k, R, xs, rfl, hk, hS, hfl, hg, hlen, hown, hrv, hb⟩ := hrel
    by_cases hlt : (k : Int) < 65536
    · obtain ⟨t, ht⟩ : ∃ t, nxt (fun x => !S x) k = t := ⟨_, rfl⟩
      obtain ⟨f, hf⟩ : ∃ f, nxt S t = f := ⟨_, rfl⟩
      have hgk : Gp R k := by have := hg.out; unfold bnd at this; rwa [if_pos (by omega)] at this
      obtain ⟨r1, r2, r3, r4, r5, r6, r7⟩ := runs_round (by omega) (hS.out (by omega)) ht hf hfl.out hgk
      obtain ⟨r, hr⟩ : ∃ r, t - k = r := ⟨_, rfl⟩
      obtain ⟨q, hq⟩ : ∃ q, k + q = 65536 := ⟨65536 - k, by omega⟩
      have hsl := fun w => sliceAt61 g 1025 k t r q w (some (.int .i64 (k : Int))) (some (.int .i64 (t : Int))) (.inr rfl) (.inr rfl) (by omega) (by omega) (by omega) (by omega) hq
      rw [hr] at r6 r7
      have R6 := Lib.hid r6
      have R7 := Lib.hid r7
      have R5 := Lib.hid r5
      have R4 := Lib.hid r4
      have R3 := Lib.hid (show k < f by omega)
      have HR := Lib.hid (show r = t - k from hr.symm)
      have HT2 := Lib.hid (show t ≤ 65536 ∧ k < t from ⟨r2, r1⟩)
      have C1 : Hid (∀ W, Img W g S n D → Tab W → Calls Tryd.prog 28 #[.pointer (some ⟨g, 0, none⟩), .int .i64 k, .bool false] W fun e w' => e = .returned (.int .i64 t) ∧ W = w') := fun W h1 h2 => by
        have := next_no g S k W hk.out h1.word h2
        rw [ht] at this
        exact this
      have C2 : Hid (∀ W, Img W g S n D → Tab W → Calls Tryd.prog 28 #[.pointer (some ⟨g, 0, none⟩), .int .i64 t, .bool true] W fun e w' => e = .returned (.int .i64 f) ∧ W = w') := fun W h1 h2 => by
        have := next_yes g S t W r2 h1.word h2
        rw [hf] at this
        exact this
      have C3 : Hid (∀ W, Img W g S n D → Calls Tryd.prog 32 #[.slice (some ⟨g, 1025 + k, none⟩) r q] W fun e w' => ∃ v, e = .returned v ∧ w'.ownsRow W.heap.size 5 1 v (ds D k r).length (bs (ds D k r)) ∧ Below W.heap.size W w') := fun W h1 =>
        clone_any _ (ds D k r) r q W (fun i => i = g) (ds_length D k r).symm (by rw [ds_length]; have := HT2.out; omega) (bytes_seg h1 k r (by have := HT2.out; omega))
      have hI1 := Lib.hid (HI.out.below hb.out HI.out.lt)
      have hT1 := Lib.hid (HT.out.below hb.out HT.out.pos)
      obtain ⟨A3, c3, rfl, _⟩ := own_form hown.out
      clear ht hf hgk r1 r2 r3 r4 r5 r6 r7 hr hq
      go_wp2_with (first
        | (go_at_call 28; (with_reducible refine (C1.out _ hI1.out hT1.out).mono ?_); rintro e w' ⟨rfl, rfl⟩)
        | (go_at_call 32; refine (C3.out _ hI1.out).mono ?_; rintro e w1 ⟨v1, rfl, ho1, hb1⟩; obtain ⟨A1, c1, rfl, _⟩ := own_form ho1; have HO1 := Lib.hid ho1; have HB1 := Lib.hid hb1; have HOW := Lib.hid (own_over hown.out hb1); have HBW := Lib.hid (hb.out.trans (hb1.mono hb.out.size)); clear ho1 hb1)
        | (at_builtin; refine wpList_app el36 rfl (.tmp 19) (.tmp 29) rfl w.heap.size _ R.length xs (fun _ => True) _ 1 1 [.int .i64 (k : Int), .slice A1 (ds D k r).length c1] rfl rfl (HOW.out.alloc _) rfl (Rd.new _ _ _ trivial) (by intro u hu; simp at hu; rcases hu with rfl | rfl <;> rfl) (by have := hlen.out; simp only [maxLen]; omega) (by have := hlen.out; omega) (by simp; have := HBW.out.size; omega) ?_; intro v2 w2 hown2 hg2 hat2 hz2; have HO2 := Lib.hid hown2; have HB2 := Lib.hid ((HBW.out.alloc HBW.out.size _).grown hg2 (by simp; have := HBW.out.size; omega) (fun q hq => (hown.out.lt q hq).1)); have HRV := Lib.hid (run_push (a := (k : Int)) (c1 := c1) hown.out hrv.out HB1.out (Rd.of_own HO1.out (fun i h1 _ => h1)) hg2 hat2 hb.out.size); have hI2 := Lib.hid (HI.out.below HB2.out HI.out.lt); have hT2 := Lib.hid (HT.out.below HB2.out HT.out.pos); clear hown2 hg2 hat2 hz2)
        | (go_at_call 28; (with_reducible refine (C2.out _ hI2.out hT2.out).mono ?_); rintro e w' ⟨rfl, rfl⟩))
      go_roundw
      case rel => exact ⟨f, R ++ [(k, ds D k r)], _, rfl, R4.out, R5.out, R6.out, R7.out, len_snoc hlen.out R3.out, by rw [List.length_append]; exact HO2.out, by rw [ri_snoc]; exact HRV.out, HB2.out⟩
      case measure => have := R3.out; have := R4.out; unfold top; simp only [intOf]; omega
    · have e : k = 65536 := by have := hk.out; omega
      subst e
      go_wp2
      go_ret
      have hg2 := hg.out
      unfold bnd at hg2
      rw [if_neg (by omega)] at hg2
      exact ⟨_, R, xs, rfl, hfl.out, hg2, hown.out, hrv.out.mono (fun i _ h => h.1), hb.out⟩
end Go.Proofs.YtmkgppbnhkihjaaDoor
