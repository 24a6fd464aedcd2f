/- ImageGets: for all runs and addresses, the image and the reference answer alike; the law returns true for every input, in the full form, with its tied card; no condition. -/
import Derived.Test.YtmkgppbnhkihjaaDoorTable
import Derived.Test.YtmkgppbnhkihjaaDoorOpen
import Derived.Test.YtmkgppbnhkihjaaDoorLawGets
namespace Go.Proofs.YtmkgppbnhkihjaaDoor
open Go.ChangeShapes Go.WideShapes Go.ChangeAt Go.RowKit

namespace lawGets
section
variable {H : Type} {enc : TypeId × Value → H} {w : World} {base : Nat} {spare : Nat → Bool} {held : Bool}
/-- A slice of ints, opened. -/
theorem open_is {fuel : Nat} {cs : List Value} {x : DataW H × List MemPlace} (h : DataW.trod enc Tryd.prog w base spare held fuel 43 cs = some x) :
    ∃ A zs c, cs = [.slice A (zs : List Int).length c] ∧ Rd w (fun _ => True) A (zs.map (Value.int .i64)) := by
  rcases open_ints Tryd.underlying43 Tryd.underlying3 cells3 h with ⟨rfl, _⟩ | ⟨a, len, cap, zs, rfl, _, hl, hm, hz, _, hcell, hwz⟩
  · exact ⟨none, [], 0, rfl, Rd.nil _ _ _⟩
  · have hle : len ≤ zs.length := by rw [hz]; split <;> omega
    have e : (zs.take len).length = len := by rw [List.length_take]; omega
    refine ⟨some a, zs.take len, cap, by rw [e], fun _ => ⟨a, rfl, trivial, fun j u hu => ?_⟩⟩
    have hj : j < len := by
      rcases Nat.lt_or_ge j len with h1 | h1
      · exact h1
      · rw [List.getElem?_eq_none (by rw [List.length_map, e]; exact h1)] at hu; cases hu
    have hjz : j < zs.length := by omega
    rw [List.getElem?_map, List.getElem?_take_of_lt hj, List.getElem?_eq_getElem hjz] at hu
    obtain rfl := Option.some.inj hu
    rw [hcell j hjz]
    simp only [List.getD, List.getElem?_eq_getElem hjz, Option.getD_some]
end
theorem walk {A : Option Addr} {c : Nat} {xs : List Value} {R : List (Int × List UInt8)} {A' : Option Addr} {c' : Nat} {zs : List Int} {W : World} (hm : (R.length : Int) ≤ 281474976710656) (h : Rd W (fun _ => True) A xs) (hR : RunVals W (fun _ => True) xs R) (hZ : Rd W (fun _ => True) A' (zs.map (Value.int .i64))) (hT : Tab W) :
    Calls Tryd.prog 5 #[.slice A R.length c, .slice A' zs.length c'] W fun e W' => e = .returned (.bool true) ∧ Below W.heap.size W W' := by
  cases hf : few R
  · exact gets_few A xs R R.length c A' zs.length c' W _ _ rfl hm h hR hT hf
  · by_cases hmm : 100 < zs.length
    · exact gets_many A xs R R.length c A' zs.length c' W _ _ rfl hm h hR hT hf hmm
    · obtain ⟨k, hk⟩ : ∃ k, ofR aS0 aD0 R = k := ⟨_, rfl⟩
      obtain ⟨k, S, D⟩ := k
      by_cases hk0 : k = 0
      · subst hk0
        exact gets_some A xs R R.length c A' zs.length c' zs W _ _ _ rfl h hR hT hf (by omega) rfl hZ S D hk
      · exact gets_none A xs R R.length c A' zs.length c' zs W _ _ _ rfl h hR hT hf (by omega) rfl hZ k S D hk hk0

theorem contract (H : Type) (enc : TypeId × Value → H) (W : World) (base : Nat) (args : Array Value) (ds gs : List (DataW H)) (before : List MemPlace)
    (hval : ∀ (j : Nat) t v, Tryd.f5.params[j]? = some t → args[j]? = some v → Value.okWide Tryd.prog W .any base t v)
    (hW : DataW.Whole enc Tryd.prog Tryd.f5.params.toList Rows.imageGetsSpec.vars false W args.toList ds gs before)
    (hsz0 : (DataW.weightsEach Tryd.prog (Tryd.f5.params.toList ++ Rows.imageGetsSpec.plain.varTypes Tryd.prog) (ds ++ gs)).all (· ≤ reachBytes) = true)
    (hL : laidMetH Tryd.prog Rows.imageGetsRow.laid W) :
    Calls Tryd.prog 5 args W fun e W' => ∃ v, e = .returned v ∧ Rows.imageGetsSpec.post enc Tryd.prog Tryd.f5 false true false false W args v W' := by
  have hW' := hW
  obtain ⟨p, q, hA0, hV, rfl, hfz, hnd⟩ := hW
  have hA : DataW.TrodAll enc Tryd.prog W 0 (fun _ => true) true Tryd.f5.params.toList args.toList ds p := hA0
  have hsz : (DataW.weightsEach Tryd.prog (Tryd.f5.params.toList ++ Rows.imageGetsSpec.plain.varTypes Tryd.prog) (ds ++ gs)).all (· ≤ reachBytes) = true := hsz0
  rw [Tryd.params5] at hA hval hsz
  obtain ⟨v0, vs0, d0, ds0, p0, q0, hargs, rfl, rfl, h0, r0⟩ := trodAll_cons hA
  obtain ⟨v1, vs1, d1, ds1, p1, q1, rfl, rfl, rfl, h1, r1⟩ := trodAll_cons r0
  obtain ⟨rfl, rfl, rfl⟩ := trodAll_nil r1
  obtain rfl : args = #[v0, v1] := by cases args; simp_all
  obtain ⟨rfl, rfl⟩ := trodVars_none hV
  clear hA0
  simp only [List.append_nil] at hW'
  have hlt : ∀ x ∈ p0, x.block < W.heap.size := fun x hx => hW'.lt x (by simp [hx])
  have hlt1 : ∀ x ∈ p1, x.block < W.heap.size := fun x hx => hW'.lt x (by simp [hx])
  have h0k := h0
  have h1k := h1
  obtain ⟨a0, len, cap, hv0⟩ := okWide_slice Tryd.underlying22 (hval 0 22 v0 rfl rfl)
  obtain ⟨a1, len1, cap1, hv1⟩ := okWide_slice Tryd.underlying43 (hval 1 43 v1 rfl rfl)
  obtain ⟨fuel, hf⟩ := h0
  have hf2 : DataW.trod enc Tryd.prog W 0 (fun _ => true) true fuel 22 [v0] = some (d0, p0) := by simpa [hv0, Value.cells] using hf
  obtain ⟨fuel1, hf1⟩ := h1
  have hf3 : DataW.trod enc Tryd.prog W 0 (fun _ => true) true fuel1 43 [v1] = some (d1, p1) := by simpa [hv1, Value.cells] using hf1
  obtain ⟨A', zs, c', hcs, hrz⟩ := open_is hf3
  simp only [List.cons.injEq, and_true] at hcs
  subst hcs
  obtain ⟨A, c, xs, R, rfl, hrd, hrv, hlen⟩ := open_runs hf2
  have hm : (R.length : Int) ≤ 281474976710656 := by
    rcases hlen with h | ⟨el, sp, h, h1⟩
    · omega
    · have hd : d0 = .slice el sp := h
      subst hd
      have hs := sized_slice hsz (j := 0) (t := 22) (e := 30) rfl rfl Tryd.underlying22
      rw [bytes30, h1] at hs
      simp only [reachBytes] at hs
      omega
  refine (walk (c := c) (c' := c') hm hrd hrv hrz (table hL)).mono fun e W' ⟨he, hb⟩ => ?_
  subst he
  exact ⟨_, rfl, _, _, _, [], p0 ++ (p1 ++ []), [], hW', trodAll_cons_mk (shut_bool Tryd.underlying4 _) trodAll_mk0, trodAll_cons_mk (Below.trod laidOut (by kernel_rfl) (of_decide_eq_true (by kernel_rfl)) h0k hb hlt) (trodAll_cons_mk (Below.trod laidOut (by kernel_rfl) (of_decide_eq_true (by kernel_rfl)) h1k hb hlt1) trodAll_mk0), rfl, hb.frame _, fun h => by cases h⟩

theorem laid_met (os : Os) : laidMet Tryd.prog Rows.imageGetsRow.laid ((laidWorld os).forCall (fun _ _ => 0) ⟨#[], #[.slice none 0 0, .slice none 0 0], []⟩).memory :=
  laidMet_of_run' 8 (by kernel_rfl) (by kernel_rfl)
theorem reads (os : Os) {H : Type} (enc : TypeId × Value → H) : ∃ places, DataW.whole enc Tryd.prog ((laidWorld os).forCall (fun _ _ => 0) ⟨#[], #[.slice none 0 0, .slice none 0 0], []⟩).memory Tryd.f5.params.toList Rows.imageGetsSpec.vars false #[Value.slice none 0 0, Value.slice none 0 0].toList 8 = some ([.nil, .nil], [], places) :=
  ⟨[], by kernel_rfl⟩

set_option maxRecDepth 100000 in
theorem lifted (os : Os) (started : os.Started) (H : Type) (enc : TypeId × Value → H) (F : Stop.Interp) :
    ReturnsInHanded {} Tryd.checked os 5 .any ((OpenSpec.ofChange Rows.imageGetsSpec).preRow enc Tryd.prog Tryd.f5 Rows.imageGetsRow.domain false Rows.imageGetsRow.laid) (((OpenSpec.ofChange Rows.imageGetsSpec).at F).post enc Tryd.prog Tryd.f5 false true false false) := by
  obtain ⟨places, hx⟩ := reads os enc
  refine returnsInHanded_of_row (C := Tryd.checked) (s := OpenSpec.ofChange Rows.imageGetsSpec) own started (by kernel_rfl) Tryd.func5
    (witness_row_at (enc := enc) (C := Tryd.checked) false (laidWorld os) #[.slice none 0 0, .slice none 0 0] rfl (by kernel_rfl) (by kernel_rfl) (by kernel_rfl)
      (OpenSpec.preRow_of_cond 8 hx (by kernel_rfl) (fun k hk => by cases hk) (by kernel_rfl) (laid_met os))) ?_
  intro W base args ds gs before hval hW _ _ hsz hL _ _
  exact contract H enc W base args ds gs before hval hW hsz hL

theorem said : Rows.ImageGetsSaid :=
  OpenClaim.holds_of_cond 5 Tryd.f5 rfl rfl rfl rfl rfl rfl rfl ⟨rfl, rfl, rfl, rfl, rfl⟩ rfl rfl rfl rfl rfl (by kernel_rfl) Tryd.func5 (by kernel_rfl)
    (of_decide_eq_true (by kernel_rfl)) (by unfold Func.isWrapper; first | (rw [if_pos (by decide +kernel)]; kernel_rfl) | (rw [if_neg (by decide +kernel)]; exact ⟨rfl, rfl⟩))
    (fun os started H enc _ F => by rw [OpenClaim.pre_eq_preRow]; exact lifted os started H enc F)

theorem plain (f : FuncId) (fn : Func) (hf : Tryd.pinned.checked.prog.funcNamed "breadboard/breadboardlaw02.ImageGets" = some f) (hfn : Tryd.pinned.checked.prog.funcs[f]? = some fn) :
    false = Tryd.pinned.checked.prog.looks [] ∧ ∀ (j : Nat) t, fn.params[j]? = some t → Tryd.pinned.checked.prog.wantsStandIn t = false := by
  obtain rfl : f = 5 := Option.some.inj ((show Tryd.prog.funcNamed "breadboard/breadboardlaw02.ImageGets" = some 5 by kernel_rfl).symm.trans hf) |>.symm
  obtain rfl : fn = Tryd.f5 := (Option.some.inj (Tryd.func5.symm.trans hfn)).symm
  refine ⟨by kernel_rfl, fun j t ht => ?_⟩
  rw [Tryd.params5] at ht
  have hm := Array.mem_of_getElem? ht
  simp at hm
  rcases hm with rfl | rfl
  · exact (show Tryd.prog.wantsStandIn 22 = false by kernel_rfl)
  · exact (show Tryd.prog.wantsStandIn 43 = false by kernel_rfl)

theorem card : Rows.ImageGetsCardSaid :=
  Claim7.holds_tied_plain_at .later [] _ _ _ _ said (fun _ h => by cases h) (by kernel_rfl) (fun _ h => by cases h) imageGets_row_tie rfl ⟨rfl, rfl⟩ (by kernel_rfl) rfl plain (by kernel_rfl)
#print axioms card
end lawGets
end Go.Proofs.YtmkgppbnhkihjaaDoor
