/- ImageSame: for all two lists of runs, Same of the images says what Same of the reference says, and a clone is the same image apart; the law returns true for every input, in the full form, with its tied card; no condition. -/
import Derived.Test.YtmkgppbnhkihjaaDoorTable
import Derived.Test.YtmkgppbnhkihjaaDoorOpen
import Derived.Test.YtmkgppbnhkihjaaDoorLawSame
namespace Go.Proofs.YtmkgppbnhkihjaaDoor
open Go.ChangeShapes Go.WideShapes Go.ChangeAt Go.RowKit

namespace lawSame
theorem cells52 : Tryd.prog.cellsOf 52 = 2 := by kernel_rfl
theorem cells22 : Tryd.prog.cellsOf 22 = 1 := by kernel_rfl
section
variable {H : Type} {enc : TypeId × Value → H} {w : World} {base : Nat} {spare : Nat → Bool} {held : Bool}
/-- Two lists of runs, opened. -/
theorem open_pair {fuel : Nat} {a0 a1 : Value} {x : DataW H × List MemPlace} (h : DataW.trod enc Tryd.prog w base spare held fuel 52 [a0, a1] = some x) :
    ∃ y0 y1 : DataW H × List MemPlace, ∃ m, x.1 = .agg [y0.1, y1.1] ∧ DataW.trod enc Tryd.prog w base spare held m 22 [a0] = some y0 ∧ DataW.trod enc Tryd.prog w base spare held m 22 [a1] = some y1 := by
  obtain ⟨xs, m, _, hx, _, hl, hf⟩ := DataW.trod_array Tryd.underlying52 h
  rw [cells22] at hf
  match xs, hl with
  | [y0, y1], _ =>
    have e0 := hf 0 (by decide)
    have e1 := hf 1 (by decide)
    simp at e0 e1
    exact ⟨y0, y1, m, by rw [hx]; rfl, e0, e1⟩
theorem bound_of {e : DataW H} {n : Nat} (h : n = 0 ∨ ∃ el sp, e = .slice el sp ∧ el.length = n) (hw : (e.weights Tryd.prog 22).all (· ≤ reachBytes) = true) : (n : Int) ≤ 281474976710656 := by
  rcases h with h | ⟨el, sp, rfl, h1⟩
  · omega
  · have := List.all_eq_true.1 hw ((el.length + sp.length) * Tryd.prog.bytesOf 30) (by simp [DataW.weights, Tryd.underlying22])
    rw [bytes30, h1] at this
    have h2 := of_decide_eq_true this
    simp only [reachBytes] at h2
    omega
end

theorem contract (H : Type) (enc : TypeId × Value → H) (W : World) (base : Nat) (args : Array Value) (ds gs : List (DataW H)) (before : List MemPlace)
    (hval : ∀ (j : Nat) t v, Tryd.f8.params[j]? = some t → args[j]? = some v → Value.okWide Tryd.prog W .any base t v)
    (hW : DataW.Whole enc Tryd.prog Tryd.f8.params.toList Rows.imageSameSpec.vars false W args.toList ds gs before)
    (hsz0 : (DataW.weightsEach Tryd.prog (Tryd.f8.params.toList ++ Rows.imageSameSpec.plain.varTypes Tryd.prog) (ds ++ gs)).all (· ≤ reachBytes) = true)
    (hL : laidMetH Tryd.prog Rows.imageSameRow.laid W) :
    Calls Tryd.prog 8 args W fun e W' => ∃ v, e = .returned v ∧ Rows.imageSameSpec.post enc Tryd.prog Tryd.f8 false true false false W args v W' := by
  have hW' := hW
  obtain ⟨p, q, hA0, hV, rfl, hfz, hnd⟩ := hW
  have hA : DataW.TrodAll enc Tryd.prog W 0 (fun _ => true) true Tryd.f8.params.toList args.toList ds p := hA0
  have hsz : (DataW.weightsEach Tryd.prog (Tryd.f8.params.toList ++ Rows.imageSameSpec.plain.varTypes Tryd.prog) (ds ++ gs)).all (· ≤ reachBytes) = true := hsz0
  rw [Tryd.params8] at hA hval hsz
  obtain ⟨v0, vs0, d0, ds0, p0, q0, hargs, rfl, rfl, h0, r0⟩ := trodAll_cons hA
  obtain ⟨v1, vs1, d1, ds1, p1, q1, rfl, rfl, rfl, h1, r1⟩ := trodAll_cons r0
  obtain ⟨v2, vs2, d2, ds2, p2, q2, rfl, rfl, rfl, h2, r2⟩ := trodAll_cons r1
  obtain ⟨rfl, rfl, rfl⟩ := trodAll_nil r2
  obtain rfl : args = #[v0, v1, v2] := by cases args; simp_all
  obtain ⟨rfl, rfl⟩ := trodVars_none hV
  clear hA0
  simp only [List.append_nil] at hW'
  have hlt : ∀ x ∈ p0, x.block < W.heap.size := fun x hx => hW'.lt x (by simp [hx])
  have hlt1 : ∀ x ∈ p1, x.block < W.heap.size := fun x hx => hW'.lt x (by simp [hx])
  have hlt2 : ∀ x ∈ p2, x.block < W.heap.size := fun x hx => hW'.lt x (by simp [hx])
  have h0k := h0
  have h1k := h1
  have h2k := h2
  obtain ⟨xs0, hv0, hx0⟩ : ∃ xs : Array Value, v0 = .agg xs ∧ xs.size = 2 := by
    have h := hval 0 52 v0 rfl rfl
    simp only [Value.okWide, Tryd.underlying52] at h
    obtain ⟨cs, h1, h2, _⟩ := h
    exact ⟨cs, h1, by rw [h2, cells52]⟩
  obtain ⟨a0, a1, rfl⟩ : ∃ a0 a1, xs0 = #[a0, a1] := by
    rcases xs0 with ⟨l⟩
    match l, hx0 with
    | [a0, a1], _ => exact ⟨a0, a1, rfl⟩
  obtain ⟨z1, e1, _, _, _⟩ := open_int Tryd.underlying53 (hval 1 53 v1 rfl rfl) h1
  obtain ⟨z2, e2, _, _, hwf⟩ := open_int Tryd.underlying5 (hval 2 5 v2 rfl rfl) h2
  subst e1; subst e2
  have hz2 : 0 ≤ z2 ∧ z2 ≤ 255 := by simpa [Lit.wf, IntKind.min, IntKind.max, IntKind.signed, IntKind.bits] using hwf
  obtain ⟨y, hy⟩ : ∃ y : UInt8, z2 = (y.toNat : Int) := ⟨UInt8.ofNat z2.toNat, by rw [UInt8.toNat_ofNat']; omega⟩
  subst hy
  obtain ⟨fuel, hf⟩ := h0
  have hf2 : DataW.trod enc Tryd.prog W 0 (fun _ => true) true fuel 52 [a0, a1] = some (d0, p0) := by simpa [hv0, Value.cells] using hf
  obtain ⟨y0, y1, m, hd, t0, t1⟩ := open_pair hf2
  obtain ⟨A, c, xs, R, rfl, hrd, hrv, hlen⟩ := open_runs t0
  obtain ⟨A', c', xs', R', rfl, hrd', hrv', hlen'⟩ := open_runs t1
  have hd' : d0 = .agg [y0.1, y1.1] := hd
  subst hd'
  have hw : ∀ n ∈ (DataW.agg [y0.1, y1.1]).weights Tryd.prog 52, n ≤ reachBytes := fun n hn => by
    have := List.all_eq_true.1 hsz _ (DataW.weights_mem_each (j := 0) (t := 52) (d := .agg [y0.1, y1.1]) rfl rfl n hn)
    simpa using this
  have hm : (R.length : Int) ≤ 281474976710656 := bound_of hlen (List.all_eq_true.2 fun n hn => by simpa using hw n (by simp [DataW.weights, DataW.weightsAll, Tryd.underlying52, hn]))
  have hm' : (R'.length : Int) ≤ 281474976710656 := bound_of hlen' (List.all_eq_true.2 fun n hn => by simpa using hw n (by simp [DataW.weights, DataW.weightsAll, Tryd.underlying52, hn]))
  subst hv0
  refine (same_law (c := c) (c' := c') (z := z1) (y := y) ⟨rfl, hm, hrd, hrv⟩ ⟨rfl, hm', hrd', hrv'⟩ (table hL)).mono fun e W' ⟨he, hb⟩ => ?_
  subst he
  exact ⟨_, rfl, _, _, _, [], p0 ++ (p1 ++ (p2 ++ [])), [], hW', trodAll_cons_mk (shut_bool Tryd.underlying4 _) trodAll_mk0, trodAll_cons_mk (Below.trod laidOut (by kernel_rfl) (of_decide_eq_true (by kernel_rfl)) h0k hb hlt) (trodAll_cons_mk (Below.trod laidOut (by kernel_rfl) (of_decide_eq_true (by kernel_rfl)) h1k hb hlt1) (trodAll_cons_mk (Below.trod laidOut (by kernel_rfl) (of_decide_eq_true (by kernel_rfl)) h2k hb hlt2) trodAll_mk0)), rfl, hb.frame _, fun h => by cases h⟩

theorem laid_met (os : Os) : laidMet Tryd.prog Rows.imageSameRow.laid ((laidWorld os).forCall (fun _ _ => 0) ⟨#[], #[.agg #[.slice none 0 0, .slice none 0 0], .int .u16 0, .int .u8 0], []⟩).memory :=
  laidMet_of_run' 8 (by kernel_rfl) (by kernel_rfl)
theorem reads (os : Os) {H : Type} (enc : TypeId × Value → H) : ∃ places, DataW.whole enc Tryd.prog ((laidWorld os).forCall (fun _ _ => 0) ⟨#[], #[.agg #[.slice none 0 0, .slice none 0 0], .int .u16 0, .int .u8 0], []⟩).memory Tryd.f8.params.toList Rows.imageSameSpec.vars false #[Value.agg #[.slice none 0 0, .slice none 0 0], .int .u16 0, .int .u8 0].toList 8 = some ([.agg [.nil, .nil], .lit (.int .u16 0), .lit (.int .u8 0)], [], places) :=
  ⟨[], by kernel_rfl⟩

set_option maxRecDepth 100000 in
theorem lifted (os : Os) (started : os.Started) (H : Type) (enc : TypeId × Value → H) (F : Stop.Interp) :
    ReturnsInHanded {} Tryd.checked os 8 .any ((OpenSpec.ofChange Rows.imageSameSpec).preRow enc Tryd.prog Tryd.f8 Rows.imageSameRow.domain false Rows.imageSameRow.laid) (((OpenSpec.ofChange Rows.imageSameSpec).at F).post enc Tryd.prog Tryd.f8 false true false false) := by
  obtain ⟨places, hx⟩ := reads os enc
  refine returnsInHanded_of_row (C := Tryd.checked) (s := OpenSpec.ofChange Rows.imageSameSpec) own started (by kernel_rfl) Tryd.func8
    (witness_row_at (enc := enc) (C := Tryd.checked) false (laidWorld os) #[.agg #[.slice none 0 0, .slice none 0 0], .int .u16 0, .int .u8 0] rfl (by kernel_rfl) (by kernel_rfl) (by kernel_rfl)
      (OpenSpec.preRow_of_cond 8 hx (by kernel_rfl) (fun k hk => by cases hk) (by kernel_rfl) (laid_met os))) ?_
  intro W base args ds gs before hval hW _ _ hsz hL _ _
  exact contract H enc W base args ds gs before hval hW hsz hL

theorem said : Rows.ImageSameSaid :=
  OpenClaim.holds_of_cond 8 Tryd.f8 rfl rfl rfl rfl rfl rfl rfl ⟨rfl, rfl, rfl, rfl, rfl⟩ rfl rfl rfl rfl rfl (by kernel_rfl) Tryd.func8 (by kernel_rfl)
    (of_decide_eq_true (by kernel_rfl)) (by unfold Func.isWrapper; first | (rw [if_pos (by decide +kernel)]; kernel_rfl) | (rw [if_neg (by decide +kernel)]; exact ⟨rfl, rfl⟩))
    (fun os started H enc _ F => by rw [OpenClaim.pre_eq_preRow]; exact lifted os started H enc F)

theorem plain (f : FuncId) (fn : Func) (hf : Tryd.pinned.checked.prog.funcNamed "breadboard/breadboardlaw02.ImageSame" = some f) (hfn : Tryd.pinned.checked.prog.funcs[f]? = some fn) :
    false = Tryd.pinned.checked.prog.looks [] ∧ ∀ (j : Nat) t, fn.params[j]? = some t → Tryd.pinned.checked.prog.wantsStandIn t = false := by
  obtain rfl : f = 8 := Option.some.inj ((show Tryd.prog.funcNamed "breadboard/breadboardlaw02.ImageSame" = some 8 by kernel_rfl).symm.trans hf) |>.symm
  obtain rfl : fn = Tryd.f8 := (Option.some.inj (Tryd.func8.symm.trans hfn)).symm
  refine ⟨by kernel_rfl, fun j t ht => ?_⟩
  rw [Tryd.params8] at ht
  have hm := Array.mem_of_getElem? ht
  simp at hm
  rcases hm with rfl | rfl | rfl
  · exact (show Tryd.prog.wantsStandIn 52 = false by kernel_rfl)
  · exact (show Tryd.prog.wantsStandIn 53 = false by kernel_rfl)
  · exact (show Tryd.prog.wantsStandIn 5 = false by kernel_rfl)

theorem card : Rows.ImageSameCardSaid :=
  Claim7.holds_tied_plain_at .later [] _ _ _ _ said (fun _ h => by cases h) (by kernel_rfl) (fun _ h => by cases h) imageSame_row_tie rfl ⟨rfl, rfl⟩ (by kernel_rfl) rfl plain (by kernel_rfl)
#print axioms card
end lawSame
end Go.Proofs.YtmkgppbnhkihjaaDoor
