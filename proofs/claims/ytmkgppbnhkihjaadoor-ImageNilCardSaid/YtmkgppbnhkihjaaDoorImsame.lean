/- The walk of Same of two images, of which either may be nil. -/
import Derived.Test.YtmkgppbnhkihjaaDoorEqf
namespace Go.Proofs.YtmkgppbnhkihjaaDoor
open Go.RowKit Go.Shelf

/-- The value v is an image: the nil one has no cells. -/
def ImV (w : World) (v : Value) (S : Nat → Bool) (D : Nat → UInt8) : Prop :=
  (∃ g n, v = .pointer (some ⟨g, 0, none⟩) ∧ Img w g S n D) ∨ (v = .pointer none ∧ seg S D 0 65536 = [])
theorem ImV.after {w w' : World} {v : Value} {S : Nat → Bool} {D : Nat → UInt8} (h : ImV w v S D) (hb : Below w.heap.size w w') : ImV w' v S D := by
  rcases h with ⟨g, n, e, hI⟩ | h
  · exact .inl ⟨g, n, e, hI.after hb⟩
  · exact .inr h
theorem ImV.form {w : World} {v : Value} {S : Nat → Bool} {D : Nat → UInt8} (h : ImV w v S D) : ∃ a, v = .pointer a := by
  rcases h with ⟨g, n, rfl, _⟩ | ⟨rfl, _⟩
  · exact ⟨_, rfl⟩
  · exact ⟨_, rfl⟩
theorem runs_v {w : World} {v : Value} {S : Nat → Bool} {D : Nat → UInt8} (h : ImV w v S D) (hT : Tab w) : Calls Tryd.prog 21 #[v] w (RunsPost w S D) := by
  rcases h with ⟨g, n, rfl, hI⟩ | ⟨rfl, h0⟩
  · exact runs_any g n S D w hI hT
  · refine (runs_nil w).mono fun e w' ⟨he, hw⟩ => ?_
    subst he; subst hw
    exact ⟨_, [], [], rfl, h0.symm, trivial, World.ownsRow_nil _ _ _ _, RunVals.nil _ _, Below.refl _ _⟩
theorem gp_len : ∀ {R : List (Nat × List UInt8)} {b : Nat}, Gp R b → R.length ≤ (flat R).length
  | [], _, _ => Nat.le_refl _
  | r :: R, b, h => by
    have e : (flat (r :: R)).length = r.2.length + (flat R).length := by simp [flat, nw_length]
    have h2 := gp_len h.2.2
    have h1 : 0 < r.2.length := List.length_pos_iff.2 h.1
    rw [e, List.length_cons]
    omega
theorem ri_inj {R R' : List (Nat × List UInt8)} (h : ri R = ri R') : R = R' := by
  have hi : ∀ x y : Nat × List UInt8, ((x.1 : Int), x.2) = ((y.1 : Int), y.2) → x = y := fun x y hxy => by
    obtain ⟨a, l⟩ := x
    obtain ⟨b, m⟩ := y
    simp only [Prod.mk.injEq] at hxy ⊢
    exact ⟨by omega, hxy.2⟩
  exact (List.map_inj_right hi).1 h
theorem runs_iff {R R' : List (Nat × List UInt8)} {L L' : List (Nat × UInt8)} (h : flat R = L) (h' : flat R' = L') (hg : Gp R 65537) (hg' : Gp R' 65537) : decide (ri R = ri R') = decide (L = L') := by
  refine decide_eq_decide.2 ⟨fun e => ?_, fun e => ?_⟩
  · rw [← h, ← h', ri_inj e]
  · rw [runs_eq R R' _ _ hg hg' (by rw [h, h', e])]

theorem imsame_any (v v' : Value) (S S' : Nat → Bool) (D D' : Nat → UInt8) (w : World) (hI : ImV w v S D) (hI' : ImV w v' S' D') (hT : Tab w) :
    Calls Tryd.prog 22 #[v, v'] w fun e w' => e = .returned (.bool (decide (seg S D 0 65536 = seg S' D' 0 65536))) ∧ Below w.heap.size w w' := by
  have C1 := Lib.hid (runs_v hI hT)
  have C2 : Hid (∀ W, Below w.heap.size w W → Calls Tryd.prog 21 #[v'] W (RunsPost W S' D')) := fun W hb => runs_v (hI'.after hb) (hT.after hb)
  obtain ⟨a, rfl⟩ := hI.form
  obtain ⟨a', rfl⟩ := hI'.form
  obtain ⟨x, hx⟩ : ∃ x, decide (seg S D 0 65536 = seg S' D' 0 65536) = x := ⟨_, rfl⟩
  have HX := Lib.hid hx
  rw [hx]
  have C3 : Hid (∀ w1 w2 W A c A2 c2 R R' xs xs', flat R = seg S D 0 65536 → Gp R 65537 → w1.ownsRow w.heap.size 39 2 (.slice A R.length c) R.length xs → RunVals w1 (fun q => w.heap.size ≤ q) xs (ri R) →
      Below w1.heap.size w1 W → flat R' = seg S' D' 0 65536 → Gp R' 65537 → w2.ownsRow w1.heap.size 39 2 (.slice A2 R'.length c2) R'.length xs' → RunVals w2 (fun q => w1.heap.size ≤ q) xs' (ri R') → Below w2.heap.size w2 W →
      Calls Tryd.prog 33 #[.slice A R.length c, .slice A2 R'.length c2, .func (.func 34) #[] #[]] W fun e w' => e = .returned (.bool x) ∧ Below W.heap.size W w') := by
    intro w1 w2 W A c A2 c2 R R' xs xs' f1 f2 f3 f4 f5 g1 g2 g3 g4 g5
    have hle : (flat R).length ≤ 65536 := by rw [f1]; exact seg_le _ _ _ _
    have := eqf_any A A2 xs xs' (ri R) (ri R') R.length R'.length c c2 W _ _ _ _ (ri_length R) (ri_length R') (by have := gp_len f2; omega)
      (fun r hr => by
        obtain ⟨k, hk, rfl⟩ := List.getElem_of_mem hr
        have := ri_len hk
        omega)
      ((Rd.of_own f3 (fun _ _ _ => trivial) : Rd _ (fun _ => True) _ _).after f5) (f4.after f5) ((Rd.of_own g3 (fun _ _ _ => trivial) : Rd _ (fun _ => True) _ _).after g5) (g4.after g5)
    rw [runs_iff f1 g1 f2 g2, hx] at this
    exact this
  clear hI hI' hT hx
  go_enter Tryd.func22, Tryd.ntmps22
  go_wp2_with (first
    | (go_at_call 21; refine C1.out.mono ?_; rintro e w1 ⟨v1, R, xs1, rfl, r1, r2, r3, r4, r5⟩; obtain ⟨A1, c1, rfl, _⟩ := own_form r3; have Q1 := Lib.hid r1; have Q2 := Lib.hid r2; have Q3 := Lib.hid r3; have Q4 := Lib.hid r4; have Q5 := Lib.hid r5; clear r1 r2 r3 r4 r5 C1)
    | (go_at_call 21; refine (C2.out _ Q5.out).mono ?_; rintro e w2 ⟨v2, R', xs2, rfl, r1, r2, r3, r4, r5⟩; obtain ⟨A2, c2, rfl, _⟩ := own_form r3; have T1 := Lib.hid r1; have T2 := Lib.hid r2; have T3 := Lib.hid r3; have T4 := Lib.hid r4; have T5 := Lib.hid r5; clear r1 r2 r3 r4 r5)
    | (go_at_call 33; refine (C3.out _ _ _ _ _ _ _ _ _ _ _ Q1.out Q2.out Q3.out Q4.out T5.out T1.out T2.out T3.out T4.out (Below.refl _ _)).mono ?_; rintro e w3 ⟨rfl, hb3⟩; have HB3 := Lib.hid ((Q5.out.trans (T5.out.mono Q5.out.size)).trans (hb3.mono (Q5.out.trans (T5.out.mono Q5.out.size)).size)); clear hb3))
  go_ret
  exact ⟨rfl, HB3.out⟩
end Go.Proofs.YtmkgppbnhkihjaaDoor
