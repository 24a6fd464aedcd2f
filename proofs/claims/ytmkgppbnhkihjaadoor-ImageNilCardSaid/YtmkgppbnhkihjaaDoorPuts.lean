/- Put of an image beside Put of the reference; the walk of the statement ImagePuts. -/
import Derived.Test.YtmkgppbnhkihjaaDoorAlive
import Derived.Test.YtmkgppbnhkihjaaDoorFew
namespace Go.Proofs.YtmkgppbnhkihjaaDoor
open Go.RowKit Go.Shelf

/-- How many addresses are defined. -/
def cnt (S : Nat → Bool) (D : Nat → UInt8) : Nat := (seg S D 0 65536).length
/-- The code of Put. -/
def pcode (S : Nat → Bool) (a : Int) (l : List UInt8) : Nat := if a < 0 ∨ 65536 ≤ a then 2 else if 65536 < a + l.length then 10 else if nxt S a.toNat < a.toNat + l.length then 4 else 0
def pS (S : Nat → Bool) (a : Int) (l : List UInt8) : Nat → Bool := if pcode S a l = 0 then insR S a.toNat l.length else S
def pD (S : Nat → Bool) (D : Nat → UInt8) (a : Int) (l : List UInt8) : Nat → UInt8 := if pcode S a l = 0 then wr D a.toNat l else D

section
variable {S : Nat → Bool} {D : Nat → UInt8} {a : Nat} {l : List UInt8}
theorem seg_three (S : Nat → Bool) (D : Nat → UInt8) (a m : Nat) (h : a + m ≤ 65536) : seg S D 0 65536 = seg S D 0 a ++ seg S D a m ++ seg S D (a + m) (65536 - (a + m)) := by
  have e : 65536 = a + (m + (65536 - (a + m))) := by omega
  have h1 := seg_add S D 0 a (m + (65536 - (a + m)))
  rw [← e, Nat.zero_add, seg_add S D a m, ← List.append_assoc] at h1
  exact h1
theorem seg_low (c : Nat × UInt8) (h : c ∈ seg S D 0 a) : (c.1 : Int) < a := by have := seg_mem S D 0 a c h; omega
theorem seg_high {m n : Nat} (c : Nat × UInt8) (h : c ∈ seg S D (a + m) n) : ¬ (c.1 : Int) < a := by have := seg_mem S D (a + m) n c h; omega
theorem over_yes (h : a + l.length ≤ 65536) (ho : nxt S a < a + l.length) : ∃ hf : fi (seg S D 0 65536) a < (seg S D 0 65536).length, ((seg S D 0 65536)[fi (seg S D 0 65536) a].1 : Int) < a + l.length := by
  have hn := nxt_spec S a (by omega)
  have hne : seg S D a l.length ≠ [] := fun e => by
    have := seg_nil_iff S D a l.length e (nxt S a) hn.ge ho
    rw [hn.yes (by omega)] at this; cases this
  have hfi : fi (seg S D 0 65536) a = (seg S D 0 a).length := by
    rw [seg_three S D a l.length h, List.append_assoc]
    refine fi_split _ _ _ (fun c hc => seg_low c hc) fun c hc => ?_
    rcases List.mem_append.1 hc with hc | hc
    · have := seg_mem S D a l.length c hc; omega
    · exact seg_high c hc
  have hpos := List.length_pos_iff.2 hne
  have hlt : (seg S D 0 a).length < (seg S D 0 65536).length := by
    rw [seg_three S D a l.length h, List.append_assoc, List.length_append, List.length_append]; omega
  refine ⟨by rw [hfi]; exact hlt, ?_⟩
  have key : (seg S D 0 65536)[(seg S D 0 a).length]? = some (seg S D a l.length)[0] := by
    rw [seg_three S D a l.length h, List.append_assoc, List.getElem?_append_right (Nat.le_refl _), Nat.sub_self, List.getElem?_append_left hpos, List.getElem?_eq_getElem hpos]
  have hm := seg_mem S D a l.length _ (List.getElem_mem hpos)
  have e : (seg S D 0 65536)[fi (seg S D 0 65536) a]'(by rw [hfi]; exact hlt) = (seg S D a l.length)[0] := by
    have h2 : (seg S D 0 65536)[fi (seg S D 0 65536) a]? = some (seg S D a l.length)[0] := by rw [hfi]; exact key
    exact Option.some.inj ((List.getElem?_eq_getElem _).symm.trans h2)
  rw [e]
  omega
theorem over_no (h : a + l.length ≤ 65536) (ho : a + l.length ≤ nxt S a) :
    fi (seg S D 0 65536) a = (seg S D 0 a).length ∧ (seg S D 0 65536).take (seg S D 0 a).length = seg S D 0 a ∧ (seg S D 0 65536).drop (seg S D 0 a).length = seg S D (a + l.length) (65536 - (a + l.length)) ∧
    (∀ hf : fi (seg S D 0 65536) a < (seg S D 0 65536).length, ¬ ((seg S D 0 65536)[fi (seg S D 0 65536) a].1 : Int) < a + l.length) ∧
    seg (insR S a l.length) (wr D a l) 0 65536 = seg S D 0 a ++ nw a l ++ seg S D (a + l.length) (65536 - (a + l.length)) ∧ cnt (insR S a l.length) (wr D a l) = cnt S D + l.length ∧ cnt S D + l.length ≤ 65536 := by
  have hn := nxt_spec S a (by omega)
  have hnil : seg S D a l.length = [] := seg_none S D a l.length (fun x h1 h2 => hn.no x h1 (by omega))
  have h3 := seg_three S D a l.length h
  rw [hnil, List.append_nil] at h3
  have hfi : fi (seg S D 0 65536) a = (seg S D 0 a).length := by
    rw [h3]
    exact fi_split _ _ _ (fun c hc => seg_low c hc) fun c hc => seg_high c hc
  have hnew : seg (insR S a l.length) (wr D a l) 0 65536 = seg S D 0 a ++ nw a l ++ seg S D (a + l.length) (65536 - (a + l.length)) := by
    rw [seg_three _ _ a l.length h]
    congr 1
    · congr 1
      · exact seg_congr _ _ 0 a (fun x _ h2 => by simp only [insR]; have : decide (a ≤ x) = false := by simp; omega
                                                  simp [this]) (fun x _ h2 => by simp only [YtmkgppbnhkihjaaDoor.wr]; rw [if_neg (by omega)])
      · rw [seg_all _ _ a l.length (fun x h1 h2 => by simp [insR]; right; omega)]
        congr 1
        have key : ∀ (m : List UInt8) (b : Nat) (E : Nat → UInt8), (∀ j (h : j < m.length), E (b + j) = m[j]) → ds E b m.length = m := by
          intro m
          induction m with
          | nil => intro b E _; rfl
          | cons x m ih =>
            intro b E hE
            rw [List.length_cons, ds]
            congr 1
            · have h0 := hE 0 (by simp)
              rw [Nat.add_zero] at h0
              exact h0
            · exact ih (b + 1) E (fun j hj => by rw [show b + 1 + j = b + (j + 1) from by omega]; exact hE (j + 1) (by simpa using hj))
        refine key l a _ fun j hj => ?_
        simp only [YtmkgppbnhkihjaaDoor.wr]
        rw [if_pos (by omega), show a + j - a = j from by omega, List.getElem?_eq_getElem hj]
        rfl
    · exact seg_congr _ _ _ _ (fun x h1 h2 => by simp only [insR]; have : decide (x < a + l.length) = false := by simp; omega
                                                 simp [this]) (fun x h1 h2 => by simp only [YtmkgppbnhkihjaaDoor.wr]; rw [if_pos (by omega), List.getElem?_eq_none (by omega)]; rfl)
  have hc1 := seg_le S D 0 a
  have hc2 := seg_le S D (a + l.length) (65536 - (a + l.length))
  refine ⟨hfi, by rw [h3]; exact List.take_left, by rw [h3]; exact List.drop_left, fun hf => ?_, hnew, ?_, ?_⟩
  · have hlt : (seg S D 0 a).length < (seg S D 0 65536).length := by rw [← hfi]; exact hf
    have h5 : 0 < (seg S D (a + l.length) (65536 - (a + l.length))).length := by rw [h3, List.length_append] at hlt; omega
    have key : (seg S D 0 65536)[fi (seg S D 0 65536) a]? = some (seg S D (a + l.length) (65536 - (a + l.length)))[0] := by
      rw [hfi, h3, List.getElem?_append_right (Nat.le_refl _), Nat.sub_self, List.getElem?_eq_getElem h5]
    have e := Option.some.inj ((List.getElem?_eq_getElem hf).symm.trans key)
    have hm := seg_mem S D (a + l.length) _ _ (List.getElem_mem h5)
    rw [e]
    omega
  · unfold cnt
    rw [hnew, h3]
    simp only [List.length_append, nw_length]
    omega
  · unfold cnt
    rw [h3, List.length_append]
    omega
end

/-- Put of an image, every case. -/
theorem put_all (g : Nat) (S : Nat → Bool) (D : Nat → UInt8) (a : Int) (A : Option Addr) (l : List UInt8) (c : Nat) (w : World) (p : Nat → Prop) (hl : (l.length : Int) ≤ 65536) (hI : Img w g S (cnt S D) D) (hT : Tab w) (hR : Rd w p A (bs l)) :
    Calls Tryd.prog 13 #[.pointer (some ⟨g, 0, none⟩), .int .i64 a, .slice A l.length c] w fun e w' => e = .returned (.int .i64 (pcode S a l)) ∧ Img w' g (pS S a l) (cnt (pS S a l) (pD S D a l)) (pD S D a l) ∧ w.grownBy w' (some g) := by
  by_cases h1 : a < 0 ∨ 65536 ≤ a
  · have e : pcode S a l = 2 := by unfold pcode; rw [if_pos h1]
    simp only [pS, pD, e]
    rw [if_neg (by decide), if_neg (by decide)]
    refine (put_range g a A l.length c w h1).mono fun e w' ⟨he, hw⟩ => ?_
    subst hw
    exact ⟨he, hI, World.grownBy.refl _ _⟩
  · obtain ⟨b, rfl⟩ := Int.eq_ofNat_of_zero_le (show 0 ≤ a by omega)
    by_cases h2 : 65536 < (b : Int) + l.length
    · have e : pcode S (b : Int) l = 10 := by unfold pcode; rw [if_neg h1, if_pos h2]
      simp only [pS, pD, e]
      rw [if_neg (by decide), if_neg (by decide)]
      refine (put_wrap g b A l.length c w (by omega) (by omega) (by omega)).mono fun e w' ⟨he, hw⟩ => ?_
      subst hw
      exact ⟨he, hI, World.grownBy.refl _ _⟩
    · by_cases h3 : nxt S b < b + l.length
      · have e : pcode S (b : Int) l = 4 := by unfold pcode; rw [if_neg h1, if_neg h2, Int.toNat_natCast, if_pos h3]
        simp only [pS, pD, e]
        rw [if_neg (by decide), if_neg (by decide)]
        refine (put_over g b (cnt S D) S D A l.length c w (by omega) (by omega) hI hT h3).mono fun e w' ⟨he, hw⟩ => ?_
        subst hw
        exact ⟨he, hI, World.grownBy.refl _ _⟩
      · have e : pcode S (b : Int) l = 0 := by unfold pcode; rw [if_neg h1, if_neg h2, Int.toNat_natCast, if_neg h3]
        simp only [pS, pD, e]
        rw [if_pos trivial, if_pos trivial, Int.toNat_natCast]
        obtain ⟨_, _, _, _, _, k1, k2⟩ := over_no (S := S) (D := D) (a := b) (l := l) (by omega) (by omega)
        rw [k1]
        exact put_ok g b (cnt S D) S D A l c w p (by omega) (by omega) (by omega) hI hT (by omega) hR

/-- What Put of the reference hands back. -/
def RputPost (w : World) (S : Nat → Bool) (D : Nat → UInt8) (a : Int) (l : List UInt8) (g : Nat) (e : Ending) (w' : World) : Prop :=
  ∃ A2 c2, e = .returned (.tuple #[.slice A2 (cnt (pS S a l) (pD S D a l)) c2, .int .i64 (pcode S a l)]) ∧ cnt (pS S a l) (pD S D a l) ≤ c2 ∧ Rd w' (fun q => q ≠ g) A2 (cl (seg (pS S a l) (pD S D a l) 0 65536)) ∧ Below w.heap.size w w'
/-- Put of the reference, every case. -/
theorem rput_all (g : Nat) (S : Nat → Bool) (D : Nat → UInt8) (a : Int) (A : Option Addr) (c : Nat) (A' : Option Addr) (l : List UInt8) (c' : Nat) (w : World) (p' : Nat → Prop) (hl : (l.length : Int) ≤ 65536) (hg : g < w.heap.size) (hc : cnt S D ≤ c)
    (hR : Rd w (fun q => q ≠ g) A (cl (seg S D 0 65536))) (hR' : Rd w p' A' (bs l)) :
    Calls Tryd.prog 12 #[.slice A (cnt S D) c, .int .i64 a, .slice A' l.length c'] w (RputPost w S D a l g) := by
  have hcl : (cnt S D : Int) ≤ 65536 := by have := seg_le S D 0 65536; unfold cnt; omega
  have same : ∀ k, pcode S a l = k → k ≠ 0 → (pS S a l = S ∧ pD S D a l = D) := fun k h1 h2 => by
    unfold pS pD
    rw [h1, if_neg h2, if_neg h2]
    exact ⟨rfl, rfl⟩
  by_cases h1 : a < 0 ∨ 65536 ≤ a
  · have e : pcode S a l = 2 := by unfold pcode; rw [if_pos h1]
    obtain ⟨s1, s2⟩ := same 2 e (by decide)
    refine (rput_range _ a A' l.length c' w h1).mono fun e' w' ⟨he, hw⟩ => ?_
    subst hw
    unfold RputPost
    rw [s1, s2, e]
    exact ⟨A, c, he, hc, hR, Below.refl _ _⟩
  · obtain ⟨b, rfl⟩ := Int.eq_ofNat_of_zero_le (show 0 ≤ a by omega)
    by_cases h2 : 65536 < (b : Int) + l.length
    · have e : pcode S (b : Int) l = 10 := by unfold pcode; rw [if_neg h1, if_pos h2]
      obtain ⟨s1, s2⟩ := same 10 e (by decide)
      refine (rput_wrap _ b A' l.length c' w (by omega) (by omega) (by omega)).mono fun e' w' ⟨he, hw⟩ => ?_
      subst hw
      unfold RputPost
      rw [s1, s2, e]
      exact ⟨A, c, he, hc, hR, Below.refl _ _⟩
    · by_cases h3 : nxt S b < b + l.length
      · have e : pcode S (b : Int) l = 4 := by unfold pcode; rw [if_neg h1, if_neg h2, Int.toNat_natCast, if_pos h3]
        obtain ⟨s1, s2⟩ := same 4 e (by decide)
        obtain ⟨k1, k2⟩ := over_yes (S := S) (D := D) (a := b) (l := l) (by omega) h3
        have hl0 : 0 < l.length := by
          have := (nxt_spec S b (by omega)).ge
          omega
        refine (rput_over A (seg S D 0 65536) (cnt S D) c b A' l.length c' w _ (by omega) hl0 (by omega) rfl (by omega) hR k1 k2).mono fun e' w' ⟨he, hw⟩ => ?_
        subst hw
        unfold RputPost
        rw [s1, s2, e]
        exact ⟨A, c, he, hc, hR, Below.refl _ _⟩
      · have e : pcode S (b : Int) l = 0 := by unfold pcode; rw [if_neg h1, if_neg h2, Int.toNat_natCast, if_neg h3]
        have e1 : pS S (b : Int) l = insR S b l.length := by unfold pS; rw [e, if_pos rfl, Int.toNat_natCast]
        have e2 : pD S D (b : Int) l = wr D b l := by unfold pD; rw [e, if_pos rfl, Int.toNat_natCast]
        by_cases hl0 : l.length = 0
        · have hln : l = [] := List.eq_nil_of_length_eq_zero hl0
          subst hln
          refine (rput_none A (seg S D 0 65536) (cnt S D) c b A' c' w _ (by omega) rfl (by omega) hR).mono fun e' w' ⟨he, hw⟩ => ?_
          subst hw
          unfold RputPost
          rw [e1, e2, e, wr_nil]
          have e3 : insR S b ([] : List UInt8).length = S := insR_zero S b
          rw [e3]
          exact ⟨A, c, he, hc, hR, Below.refl _ _⟩
        · obtain ⟨k0, k1, k2, k3, k4, k5, k6⟩ := over_no (S := S) (D := D) (a := b) (l := l) (by omega) (by omega)
          refine (rput_ok A (seg S D 0 65536) (cnt S D) c b A' l c' w _ p' (by omega) (by omega) (by omega) rfl (by omega) hc hR hR' k3).mono fun e' w' ⟨v, he, hown, hb⟩ => ?_
          rw [k0, k1, k2, ← k4] at hown
          obtain ⟨A2, c2, rfl, hnc, _⟩ := own_form hown
          unfold RputPost
          rw [e1, e2, e, k5]
          exact ⟨A2, c2, he, hnc, Rd.of_own hown (fun i h1 _ => by omega), hb⟩
end Go.Proofs.YtmkgppbnhkihjaaDoor
