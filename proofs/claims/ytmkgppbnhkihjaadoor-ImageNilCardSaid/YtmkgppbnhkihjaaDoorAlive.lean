/- The walk of the statements' example. -/
import Derived.Test.YtmkgppbnhkihjaaDoorSame
import Derived.Test.YtmkgppbnhkihjaaDoorNew
namespace Go.Proofs.YtmkgppbnhkihjaaDoor
open Go.RowKit Go.Shelf

theorem nxt_ge {S : Nat → Bool} {a b : Nat} (ha : a ≤ 65536) (hb : b ≤ 65536) (h : ∀ x, a ≤ x → x < b → S x = false) : b ≤ nxt S a := by
  have h1 := nxt_spec S a ha
  apply Nat.le_of_not_lt
  intro hlt
  have h2 := h1.yes (by omega)
  rw [h _ h1.ge hlt] at h2
  cases h2
theorem nxt_at {S : Nat → Bool} {a : Nat} (ha : a < 65536) (h : S a = true) : nxt S a = a := nxt_eq ⟨Nat.le_refl _, by omega, fun x h1 h2 => by omega, fun _ => h⟩

def aS0 : Nat → Bool := fun _ => false
def aD0 : Nat → UInt8 := fun _ => 0
def aS1 : Nat → Bool := insR aS0 5 2
def aD1 : Nat → UInt8 := wr aD0 5 [1, 2]
def aS2 : Nat → Bool := insR aS1 7 1
def aD2 : Nat → UInt8 := wr aD1 7 [3]
theorem aS2_eq (x : Nat) : aS2 x = (decide (5 ≤ x) && decide (x < 8)) := by
  simp only [aS2, aS1, aS0, insR, Bool.false_or]
  rw [Bool.eq_iff_iff]
  simp
  omega
theorem a_seg : seg aS2 aD2 0 65536 = nw 5 [1, 2, 3] := by
  have e : 65536 = 5 + (3 + 65528) := by decide
  rw [e, seg_add, seg_add, seg_none aS2 aD2 0 5 (fun x _ h => by rw [aS2_eq]; simp; omega), seg_none aS2 aD2 (0 + 5 + 3) 65528 (fun x h _ => by rw [aS2_eq]; simp; omega), seg_all aS2 aD2 (0 + 5) 3 (fun x h1 h2 => by rw [aS2_eq]; simp; omega)]
  rfl
theorem a_runs {R : List (Nat × List UInt8)} (h : flat R = seg aS2 aD2 0 65536) (hg : Gp R 65537) : R = [(5, [1, 2, 3])] :=
  runs_eq R _ 65537 65537 hg ⟨by simp, by simp [start], trivial⟩ (by rw [h, a_seg]; rfl)

theorem put1 (g b : Nat) (W : World) (hI : Img W g aS0 0 aD0) (hT : Tab W) (hR : Rd W (fun _ => True) (some ⟨b, 0, none⟩) (bs [1, 2])) :
    Calls Tryd.prog 13 #[.pointer (some ⟨g, 0, none⟩), .int .i64 5, .slice (some ⟨b, 0, none⟩) 2 2] W fun e w' => e = .returned (.int .i64 0) ∧ Img w' g aS1 2 aD1 ∧ W.grownBy w' (some g) :=
  put_ok g 5 0 aS0 aD0 _ [1, 2] 2 W _ (by decide) (by decide) (by decide) hI hT (nxt_ge (by decide) (by decide) (fun _ _ _ => rfl)) hR
theorem put2 (g b : Nat) (W : World) (hI : Img W g aS1 2 aD1) (hT : Tab W) (hR : Rd W (fun _ => True) (some ⟨b, 0, none⟩) (bs [3])) :
    Calls Tryd.prog 13 #[.pointer (some ⟨g, 0, none⟩), .int .i64 7, .slice (some ⟨b, 0, none⟩) 1 1] W fun e w' => e = .returned (.int .i64 0) ∧ Img w' g aS2 3 aD2 ∧ W.grownBy w' (some g) :=
  put_ok g 7 2 aS1 aD1 _ [3] 1 W _ (by decide) (by decide) (by decide) hI hT (nxt_ge (by decide) (by decide) (fun x h1 h2 => by simp only [aS1, insR, aS0, Bool.false_or]; simp; simp at h2; omega)) hR
theorem put3 (g b : Nat) (W : World) (hI : Img W g aS2 3 aD2) (hT : Tab W) :
    Calls Tryd.prog 13 #[.pointer (some ⟨g, 0, none⟩), .int .i64 6, .slice (some ⟨b, 0, none⟩) 1 1] W fun e w' => e = .returned (.int .i64 4) ∧ W = w' :=
  put_over g 6 3 aS2 aD2 _ 1 1 W (by decide) (by decide) hI hT (by rw [nxt_at (by decide) (by rw [aS2_eq]; decide)]; decide)

theorem img_alloc {w : World} {g n : Nat} {S : Nat → Bool} {D : Nat → UInt8} (h : Img w g S n D) (o : Obj) : Img (w.alloc o) g S n D := h.after ((Below.refl _ _).alloc (Nat.le_refl _) o)
theorem tab_alloc {w : World} (h : Tab w) (o : Obj) : Tab (w.alloc o) := h.after ((Below.refl _ _).alloc (Nat.le_refl _) o)
theorem below_img {B g : Nat} {w0 w w1 : World} {o : Obj} (hb : Below B w0 w) (hB : B ≤ w.heap.size) (hg : (w.alloc o).grownBy w1 (some g)) (hBg : B ≤ g) : Below B w0 w1 :=
  (hb.alloc hB o).grown hg (by simp; omega) (fun k hk => by have e : g = k := Option.some.inj hk; omega)

theorem a_out {w w4 : World} {v : Value} {xs : List Value} {R : List (Nat × List UInt8)} (h1 : flat R = seg aS2 aD2 0 65536) (h2 : Gp R 65537) (h3 : w4.ownsRow w.heap.size 39 2 v R.length xs) (h4 : RunVals w4 (fun q => w.heap.size ≤ q) xs (ri R)) :
    ∃ g c A cA, v = .slice (some ⟨g, 0, none⟩) 1 c ∧ w4.cell? ⟨g, 0, none⟩ = some (.int .i64 5) ∧ w4.cell? ⟨g, 1, none⟩ = some (.slice A 3 cA) ∧ Rd w4 (fun q => w.heap.size ≤ q) A (bs [1, 2, 3]) := by
  obtain rfl := a_runs h1 h2
  obtain ⟨g, c, rfl, _⟩ := own_some h3 (by decide)
  obtain ⟨e1, A, cA, e2, e3⟩ := h4.2 0 (by decide)
  exact ⟨g, c, A, cA, rfl, (h3.cellAt 0 (by decide)).trans e1, (h3.cellAt 1 (by decide)).trans e2, e3⟩
theorem rd_new1 (W : World) : Rd (W.alloc (.cells #[.int .u8 1, .int .u8 2] 5)) (fun _ => True) (some ⟨W.heap.size, 0, none⟩) (bs [1, 2]) := Rd.new W _ 5 trivial
theorem rd_new2 (W : World) : Rd (W.alloc (.cells #[.int .u8 3] 5)) (fun _ => True) (some ⟨W.heap.size, 0, none⟩) (bs [3]) := Rd.new W _ 5 trivial
theorem rd_new3 (W : World) : Rd (W.alloc (.cells #[.int .u8 1, .int .u8 2, .int .u8 3] 5)) (fun _ => True) (some ⟨W.heap.size, 0, none⟩) (bs [1, 2, 3]) := Rd.new W _ 5 trivial
theorem a_equal {A : Option Addr} {cA b : Nat} {w4 W : World} {p : Nat → Prop} (h : Rd w4 p A (bs [1, 2, 3])) (hb : Below w4.heap.size w4 W) (h' : Rd W (fun _ => True) (some ⟨b, 0, none⟩) (bs [1, 2, 3])) :
    Calls Tryd.prog 26 #[.slice A 3 cA, .slice (some ⟨b, 0, none⟩) 3 3] W fun e w' => e = .returned (.bool true) ∧ ∃ m, w' = W.drewN m :=
  equal_true A _ [1, 2, 3] cA 3 W _ _ (by decide) (h.after hb) h'

set_option maxRecDepth 100000 in
theorem alive_any (w : World) (hT : Tab w) : Calls Tryd.prog 10 #[] w fun e w' => e = .returned (.bool true) ∧ Below w.heap.size w w' := by
  have HT := Lib.hid hT
  clear hT
  obtain ⟨g, hg⟩ : ∃ g, w.heap.size = g := ⟨_, rfl⟩
  have HG := Lib.hid hg
  have CN := Lib.hid (new_any w)
  have HP : Hid (0 < g) := by have := HT.out.pos; have := HG.out; show 0 < g; omega
  rw [hg] at CN
  clear hg
  go_enter Tryd.func10, Tryd.ntmps10
  go_wp2_with (first
    | (go_at_call 11; refine CN.out.mono ?_; rintro e w1 ⟨rfl, hI, hb⟩; have HI1 : Hid (Img w1 g aS0 0 aD0) := hI; have HB1 := Lib.hid hb; have HT1 := Lib.hid (HT.out.below hb HP.out); clear hI hb)
    | (go_at_call 13; (with_reducible refine (put1 g _ _ (img_alloc HI1.out _) (tab_alloc HT1.out _) (rd_new1 _)).mono ?_); rintro e w2 ⟨rfl, hI, hg⟩; have HI2 := Lib.hid hI; have HB2 := Lib.hid (below_img HB1.out (Nat.le_of_lt HI1.out.lt) hg (Nat.le_refl _)); have HT2 := Lib.hid (HT.out.below HB2.out HP.out); clear hI hg)
    | (go_at_call 13; (with_reducible refine (put2 g _ _ (img_alloc HI2.out _) (tab_alloc HT2.out _) (rd_new2 _)).mono ?_); rintro e w3 ⟨rfl, hI, hg⟩; have HI3 := Lib.hid hI; have HB3 := Lib.hid (below_img HB2.out (Nat.le_of_lt HI2.out.lt) hg (Nat.le_refl _)); have HT3 := Lib.hid (HT.out.below HB3.out HP.out); clear hI hg)
    | (go_at_call 13; (with_reducible refine (put3 g _ _ (img_alloc HI3.out _) (tab_alloc HT3.out _)).mono ?_); rintro e w' ⟨rfl, rfl⟩)
    | (go_at_call 21; refine (runs_any g 3 aS2 aD2 _ (img_alloc HI3.out _) (tab_alloc HT3.out _)).mono ?_; rintro e w4 ⟨v, R, xs, rfl, r1, r2, r3, r4, r5⟩; obtain ⟨g5, c5, A5, cA, rfl, hc1, hc2, hd⟩ := a_out r1 r2 r3 r4; have HD := Lib.hid hd; have HB4 := Lib.hid ((HB3.out.alloc (Nat.le_of_lt HI3.out.lt) _).trans (r5.mono (Nat.le_of_lt (img_alloc HI3.out _).lt))); clear r1 r2 r3 r4 r5 hd)
    | (go_at_call 26; refine (a_equal HD.out ((Below.refl _ _).alloc (Nat.le_refl _) _) (rd_new3 _)).mono ?_; rintro e w' ⟨rfl, m, rfl⟩))
  go_ret
  refine ⟨rfl, ?_⟩
  rw [HG.out]
  exact below_drewN (HB4.out.alloc (by have := HB4.out.size; have := HG.out; omega) _) _
end Go.Proofs.YtmkgppbnhkihjaaDoor
