/- slices.Reverse of a list of runs: the contract of the shelf, laid at this program. -/
import Derived.Test.YtmkgppbnhkihjaaDoorOf
import Derived.Shelf.SlicesQ.Reverse
import Derived.Ground.SlgnProg
namespace Go.Proofs.YtmkgppbnhkihjaaDoor
open Go.RowKit Go.Shelf Go.Sort

def reverseRun_ren : Go.Shelf.Ren := ⟨fun | 35 => 16 | n => n, fun | 22 => 36 | 23 => 39 | 3 => 3 | 4 => 4 | 0 => 0 | n => n, fun | n => n⟩
theorem reverseRun : SlLaysE0.n35 Tryd.prog reverseRun_ren := {
  mixed := by kernel_rfl
  f35 := ⟨Tryd.f16.name, by decide, Tryd.func16.trans (congrArg some (by kernel_rfl))⟩
  t0 := Tryd.underlying0
  a0 := Tryd.isAgg0
  z0 := Tryd.sizeOf0
  v0 := Tryd.zeroValue0
  t3 := Tryd.underlying3
  a3 := Tryd.isAgg3
  z3 := Tryd.sizeOf3
  v3 := Tryd.zeroValue3
  t4 := Tryd.underlying4
  a4 := Tryd.isAgg4
  z4 := Tryd.sizeOf4
  v4 := Tryd.zeroValue4
  t22 := Tryd.underlying36
  a22 := Tryd.isAgg36
  z22 := Tryd.sizeOf36
  v22 := Tryd.zeroValue36 }

/-- The cells of one run. -/
def encR (x : Int × Option Addr × Nat × Nat) : List Value := [.int .i64 x.1, .slice x.2.1 x.2.2.1 x.2.2.2]
theorem runs_of {w : World} {q : Nat → Prop} {xs : List Value} {R : List (Int × List UInt8)} (hR : RunVals w q xs R) :
    ∃ f : Nat → Int × Option Addr × Nat × Nat, ∀ i (h : i < R.length), xs[i * 2]? = some (.int .i64 (f i).1) ∧ xs[i * 2 + 1]? = some (.slice (f i).2.1 (f i).2.2.1 (f i).2.2.2) ∧ (f i).1 = R[i].1 ∧ (f i).2.2.1 = R[i].2.length ∧ Rd w q (f i).2.1 (bs R[i].2) := by
  have h : ∀ i, ∃ y : Int × Option Addr × Nat × Nat, ∀ h : i < R.length, xs[i * 2]? = some (.int .i64 y.1) ∧ xs[i * 2 + 1]? = some (.slice y.2.1 y.2.2.1 y.2.2.2) ∧ y.1 = R[i].1 ∧ y.2.2.1 = R[i].2.length ∧ Rd w q y.2.1 (bs R[i].2) := fun i => by
    by_cases h : i < R.length
    · obtain ⟨h1, A, c, h2, h3⟩ := hR.2 i h
      exact ⟨(R[i].1, A, R[i].2.length, c), fun _ => ⟨h1, h2, rfl, rfl, h3⟩⟩
    · exact ⟨default, fun h' => absurd h' h⟩
  exact Classical.axiomOfChoice h
theorem flat_at (d : Array (Int × Option Addr × Nat × Nat)) {i : Nat} (hi : i < d.size) :
    (flatK encR 2 d)[i * 2]! = .int .i64 d[i]!.1 ∧ (flatK encR 2 d)[i * 2 + 1]! = .slice d[i]!.2.1 d[i]!.2.2.1 d[i]!.2.2.2 := by
  rw [get_flatK _ _ _ _ (by omega), get_flatK _ _ _ _ (by omega), show i * 2 / 2 = i from by omega, show i * 2 % 2 = 0 from by omega, show (i * 2 + 1) / 2 = i from by omega, show (i * 2 + 1) % 2 = 1 from by omega]
  exact ⟨rfl, rfl⟩
theorem flat_list (d : Array (Int × Option Addr × Nat × Nat)) {j : Nat} (hj : j < d.size * 2) : (flatK encR 2 d).toList[j]? = some (flatK encR 2 d)[j]! := by
  rw [Array.getElem?_toList, getElem!_pos _ j (by simpa using hj), Array.getElem?_eq_getElem]

theorem rev_any (base : Nat) (A : Option Addr) (xs : List Value) (R : List (Int × List UInt8)) (n c : Nat) (w : World) (q : Nat → Prop) (hn : n = R.length) (hbig : (n : Int) ≤ 60) (ho : w.ownsRow base 39 2 (.slice A n c) n xs) (hR : RunVals w q xs R) (hq : ∀ i, q i → i < base) :
    Calls Tryd.prog 16 #[.slice A n c] w fun e w' => e = .returned (.tuple #[]) ∧ Below base w w' ∧ ∃ xs', Rd w' (fun _ => True) A xs' ∧ RunVals w' q xs' R.reverse := by
  rcases ho.2 with ⟨hv, hn0⟩ | ⟨g, cap, cur, hv, hbg, hg, hcap, hmax, hsz, htake⟩
  · injection hv with e1 e2 e3
    subst e1; subst e3
    obtain rfl : R = [] := List.eq_nil_of_length_eq_zero (by omega)
    subst hn0
    refine Calls.mono (AnyQ.slices_Reverse_empty reverseRun none 0 w) ?_
    rintro e w' ⟨rfl, rfl⟩
    exact ⟨rfl, Below.refl _ _, [], Rd.nil _ _ _, RunVals.nil _ _⟩
  · injection hv with e1 e2 e3
    subst e1; subst e3
    obtain ⟨f, hf⟩ := runs_of hR
    obtain ⟨d, hd⟩ : ∃ d, d = (Array.range n).map f := ⟨_, rfl⟩
    have hds : d.size = n := by rw [hd]; simp
    have hdi : ∀ i, i < n → d[i]! = f i := fun i hi => by rw [getElem!_pos d i (by omega)]; simp [hd]
    have hcell : ∀ j u, xs[j]? = some u → w.cell? ⟨g, j, none⟩ = some u := fun j u hu => by
      rw [← htake, List.getElem?_take] at hu
      split at hu
      · rw [World.cell?]; simpa [hg] using hu
      · cases hu
    have hH : HoldsK encR 2 w g 0 d := fun j hj => by
      rw [size_flatK, hds] at hj
      refine ⟨?_, by simp [World.frozen?, hg]⟩
      rw [Nat.zero_add]
      obtain ⟨h1, h2, _⟩ := hf (j / 2) (by omega)
      obtain ⟨k1, k2⟩ := flat_at d (i := j / 2) (by omega)
      rw [hdi _ (by omega)] at k1 k2
      rcases Nat.mod_two_eq_zero_or_one j with hm | hm
      · have e : j / 2 * 2 = j := by omega
        rw [e] at h1 k1
        rw [k1]; exact hcell _ _ h1
      · have e : j / 2 * 2 + 1 = j := by omega
        rw [e] at h2 k2
        rw [k2]; exact hcell _ _ h2
    have C := AnyQ.slices_Reverse reverseRun 2 Tryd.isAgg39 Tryd.sizeOf39 encR (fun _ => rfl) (fun x v hv => by simp [encR] at hv; rcases hv with rfl | rfl <;> rfl) g 0 c d w hH (by omega)
    rw [hds] at C
    refine Calls.mono C ?_
    rintro e w' ⟨rfl, m, rfl⟩
    have hrs : d.reverse.size = n := by simp [hds]
    have hH' := holdsK_putRowK (enc := encR) (k := 2) (Sort.ahead w m) g 0 d d.reverse (holdsK_ahead _ _ _ _ _ _ _ hH) (by simp)
    have hb : Below base w (putRowK encR 2 (Sort.ahead w m) g 0 d.reverse) := ⟨rfl, rfl, rfl, by simp [putRowK, putRow, mapBlock, Sort.ahead], fun i hi => by
      simp only [putRowK, putRow, mapBlock, Sort.ahead, Array.getElem?_modify]
      rw [if_neg (by omega)]⟩
    refine ⟨rfl, hb, (flatK encR 2 d.reverse).toList, fun _ => ⟨_, rfl, trivial, fun j u hu => ?_⟩, by simp [hds, hn], fun i hi => ?_⟩
    · obtain ⟨hj, _⟩ := List.getElem?_eq_some_iff.1 hu
      rw [Array.length_toList, size_flatK] at hj
      rw [flat_list _ hj] at hu
      have := (hH' j (by rw [size_flatK]; exact hj)).1
      rw [Addr.add_lit, this]
      exact hu
    · rw [List.length_reverse] at hi
      have hlt : R.length - 1 - i < R.length := by omega
      obtain ⟨_, _, h3, h4, h5⟩ := hf _ hlt
      have e : R.reverse[i]'(by simpa using hi) = R[R.length - 1 - i] := by simp
      have ed : d.reverse[i]! = f (R.length - 1 - i) := by
        rw [getElem!_pos _ i (by omega), Array.getElem_reverse, ← hdi _ (by omega), getElem!_pos d _ (by omega)]
        simp only [hds, hn]
      obtain ⟨k1, k2⟩ := flat_at d.reverse (i := i) (by omega)
      rw [flat_list _ (by omega), flat_list _ (by omega), k1, k2, ed, e, h3, h4]
      exact ⟨rfl, _, _, rfl, h5.keep fun i h1 h2 => hb.block i (hq i h2)⟩
end Go.Proofs.YtmkgppbnhkihjaaDoor
