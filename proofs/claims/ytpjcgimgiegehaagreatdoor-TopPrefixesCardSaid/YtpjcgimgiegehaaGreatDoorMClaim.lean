/- TopPrefixes: the bytes of an entry with any numbers never begin with those of another one, or of the same entry with other numbers; the law returns true for every input, in the full form, with its tied card; no condition. -/
import Derived.Test.YtpjcgimgiegehaaGreatDoorMTa
import Derived.Test.YtpjcgimgiegehaaGreatDoorMK11
import Derived.Test.YtpjcgimgiegehaaGreatDoorMFa
import Derived.Test.YtpjcgimgiegehaaGreatDoorMGo
import Derived.Deep.DeepWitnessRowRef
namespace Go.Proofs.YtpjcgimgiegehaaGreatDoor
open Go.ChangeShapes Go.WideShapes Go.ChangeAt Go.RowKit Go.ChangeMaps

theorem okWide_array {P : Program} {w : World} {r : Reach} {base : Nat} {t : TypeId} {v : Value} {n : Nat} {e : TypeId} (ht : P.underlying t = some (.array n e)) (h : Value.okWide P w r base t v) : ∃ cs, v = .agg cs ∧ cs.size = P.cellsOf t := by
  simp only [Value.okWide, ht] at h
  obtain ⟨cs, h1, h2, _⟩ := h
  exact ⟨cs, h1, h2⟩
section
variable {H : Type} {enc : TypeId × Value → H} {w : World} {base : Nat} {spare : Nat → Bool} {held : Bool}
theorem u8_nat {n : Int} (h : (Lit.int .u8 n).wf = true) : ∃ k : Nat, n = (k : Int) ∧ k < 256 := by
  have hy : 0 ≤ n ∧ n ≤ 255 := by simpa [Lit.wf, IntKind.min, IntKind.max, IntKind.signed, IntKind.bits] using h
  exact ⟨n.toNat, by omega, by omega⟩
set_option maxRecDepth 100000 in
theorem arr2 {r : Reach} {b0 : Nat} {v : Value} {d : DataW H} {ps : List MemPlace} (hval : Value.okWide Tryz.prog w r b0 22 v) (h : DataW.Trod enc Tryz.prog w base spare held 22 v d ps) :
    ∃ a b : Nat, v = .agg #[.int .u8 (a : Int), .int .u8 (b : Int)] ∧ a < 256 ∧ b < 256 := by
  obtain ⟨cs, rfl, hcs⟩ := okWide_array Tryz.underlying22 hval
  rw [show Tryz.prog.cellsOf 22 = 2 by kernel_rfl] at hcs
  obtain ⟨fuel, hf⟩ := h
  have hf2 : DataW.trod enc Tryz.prog w base spare held fuel 22 cs.toList = some (d, ps) := by simpa [Value.cells] using hf
  obtain ⟨xs, m, _, _, _, hxl, hfl⟩ := DataW.trod_array Tryz.underlying22 hf2
  have hc1 : Tryz.prog.cellsOf 5 = 1 := by kernel_rfl
  rw [hc1] at hfl
  obtain ⟨l2⟩ := cs
  match l2, hcs, xs, hxl with
  | [c0, c1], _, [x0, x1], _ =>
    have h0 : DataW.trod enc Tryz.prog w base spare held m 5 [c0] = some x0 := hfl 0 (by decide)
    have h1 : DataW.trod enc Tryz.prog w base spare held m 5 [c1] = some x1 := hfl 1 (by decide)
    obtain ⟨a, e0, _, w0⟩ := DataW.trod_int Tryz.underlying5 h0
    obtain ⟨b, e1, _, w1⟩ := DataW.trod_int Tryz.underlying5 h1
    simp only [List.cons.injEq, and_true] at e0 e1
    subst e0; subst e1
    obtain ⟨a, rfl, ha⟩ := u8_nat w0
    obtain ⟨b, rfl, hb⟩ := u8_nat w1
    exact ⟨a, b, rfl, ha, hb⟩
set_option maxRecDepth 100000 in
theorem arr4 {r : Reach} {b0 : Nat} {v : Value} {d : DataW H} {ps : List MemPlace} (hval : Value.okWide Tryz.prog w r b0 23 v) (h : DataW.Trod enc Tryz.prog w base spare held 23 v d ps) :
    ∃ a b c e : Int, v = .agg #[.int .i64 a, .int .i64 b, .int .i64 c, .int .i64 e] := by
  obtain ⟨cs, rfl, hcs⟩ := okWide_array Tryz.underlying23 hval
  rw [show Tryz.prog.cellsOf 23 = 4 by kernel_rfl] at hcs
  obtain ⟨fuel, hf⟩ := h
  have hf2 : DataW.trod enc Tryz.prog w base spare held fuel 23 cs.toList = some (d, ps) := by simpa [Value.cells] using hf
  obtain ⟨xs, m, _, _, _, hxl, hfl⟩ := DataW.trod_array Tryz.underlying23 hf2
  have hc1 : Tryz.prog.cellsOf 3 = 1 := by kernel_rfl
  rw [hc1] at hfl
  obtain ⟨l4⟩ := cs
  match l4, hcs, xs, hxl with
  | [c0, c1, c2, c3], _, [x0, x1, x2, x3], _ =>
    have h0 : DataW.trod enc Tryz.prog w base spare held m 3 [c0] = some x0 := hfl 0 (by decide)
    have h1 : DataW.trod enc Tryz.prog w base spare held m 3 [c1] = some x1 := hfl 1 (by decide)
    have h2 : DataW.trod enc Tryz.prog w base spare held m 3 [c2] = some x2 := hfl 2 (by decide)
    have h3 : DataW.trod enc Tryz.prog w base spare held m 3 [c3] = some x3 := hfl 3 (by decide)
    obtain ⟨a, e0, _, _⟩ := DataW.trod_int Tryz.underlying3 h0
    obtain ⟨b, e1, _, _⟩ := DataW.trod_int Tryz.underlying3 h1
    obtain ⟨c, e2, _, _⟩ := DataW.trod_int Tryz.underlying3 h2
    obtain ⟨e, e3, _, _⟩ := DataW.trod_int Tryz.underlying3 h3
    simp only [List.cons.injEq, and_true] at e0 e1 e2 e3
    subst e0; subst e1; subst e2; subst e3
    exact ⟨a, b, c, e, rfl⟩
end
namespace lawPrefixes
set_option maxRecDepth 100000 in
theorem contract (H : Type) (enc : TypeId × Value → H) (W : World) (base : Nat) (args : Array Value) (ds gs : List (DataW H)) (before : List MemPlace)
    (hval : ∀ (j : Nat) t v, Tryz.f3.params[j]? = some t → args[j]? = some v → Value.okWide Tryz.prog W .any base t v)
    (hW : DataW.Whole enc Tryz.prog Tryz.f3.params.toList Rows.topPrefixesSpec.vars false W args.toList ds gs before)
    (hL : laidMetH Tryz.prog Rows.topPrefixesRow.laid W) :
    Calls Tryz.prog 3 args W fun e W' => ∃ v, e = .returned v ∧ Rows.topPrefixesSpec.post enc Tryz.prog Tryz.f3 false true false false W args v W' := by
  have hW' := hW
  obtain ⟨p, q, hA0, hV, rfl, hfz, hnd⟩ := hW
  have hA : DataW.TrodAll enc Tryz.prog W 0 (fun _ => true) true Tryz.f3.params.toList args.toList ds p := hA0
  rw [Tryz.params3] at hA hval
  obtain ⟨v0, vs0, d0, ds0, p0, q0, hargs, rfl, rfl, h0, r0⟩ := trodAll_cons hA
  obtain ⟨v1, vs1, d1, ds1, p1, q1, rfl, rfl, rfl, h1, r1⟩ := trodAll_cons r0
  obtain ⟨v2, vs2, d2, ds2, p2, q2, rfl, rfl, rfl, h2, r2⟩ := trodAll_cons r1
  obtain ⟨rfl, rfl, rfl⟩ := trodAll_nil r2
  obtain rfl : args = #[v0, v1, v2] := by cases args; simp_all
  obtain ⟨rfl, rfl⟩ := trodVars_none hV
  clear hA0
  simp only [List.append_nil] at hW'
  have hlt0 : ∀ x ∈ p0, x.block < W.heap.size := fun x hx => hW'.lt x (by simp [hx])
  have hlt1 : ∀ x ∈ p1, x.block < W.heap.size := fun x hx => hW'.lt x (by simp [hx])
  have hlt2 : ∀ x ∈ p2, x.block < W.heap.size := fun x hx => hW'.lt x (by simp [hx])
  have h0k := h0
  have h1k := h1
  have h2k := h2
  obtain ⟨a0, a1, rfl, ha0, ha1⟩ := arr2 (hval 0 22 v0 rfl rfl) h0
  obtain ⟨o0, o1, rfl, ho0, ho1⟩ := arr2 (hval 1 22 v1 rfl rfl) h1
  obtain ⟨x0, x1, x2, x3, rfl⟩ := arr4 (hval 2 23 v2 rfl rfl) h2
  refine (tp_law a0 a1 o0 o1 x0 x1 x2 x3 ha0 ha1 ho0 ho1 W (glT_of (met_of hL))).mono fun e W' ⟨he, hb⟩ => ?_
  subst he
  exact ⟨_, rfl, _, _, _, [], _, [], hW', trodAll_cons_mk (shut_bool Tryz.underlying4 _) trodAll_mk0, trodAll_cons_mk (Below.trod laidOut (by kernel_rfl) (of_decide_eq_true (by kernel_rfl)) h0k hb hlt0) (trodAll_cons_mk (Below.trod laidOut (by kernel_rfl) (of_decide_eq_true (by kernel_rfl)) h1k hb hlt1) (trodAll_cons_mk (Below.trod laidOut (by kernel_rfl) (of_decide_eq_true (by kernel_rfl)) h2k hb hlt2) trodAll_mk0)), rfl, hb.frame _, fun h => by cases h⟩
theorem reads (os : Os) {H : Type} (enc : TypeId × Value → H) : ∃ places, DataW.whole enc Tryz.prog ((laidWorld os).forCall (fun _ _ => 0) ⟨#[], wargs, []⟩).memory Tryz.f3.params.toList Rows.topPrefixesSpec.vars false wargs.toList 8 = some ([.agg [.lit (.int .u8 0), .lit (.int .u8 0)], .agg [.lit (.int .u8 0), .lit (.int .u8 0)], .agg [.lit (.int .i64 0), .lit (.int .i64 0), .lit (.int .i64 0), .lit (.int .i64 0)]], [], places) :=
  ⟨[], by kernel_rfl⟩
set_option maxRecDepth 100000 in
theorem lifted (os : Os) (started : os.Started) (H : Type) (enc : TypeId × Value → H) (F : Stop.Interp) :
    ReturnsInHanded {} Tryz.checked os 3 .any ((OpenSpec.ofChange Rows.topPrefixesSpec).preRow enc Tryz.prog Tryz.f3 Rows.topPrefixesRow.domain false Rows.topPrefixesRow.laid) (((OpenSpec.ofChange Rows.topPrefixesSpec).at F).post enc Tryz.prog Tryz.f3 false true false false) := by
  obtain ⟨places, hx⟩ := reads os enc
  refine returnsInHanded_of_row (C := Tryz.checked) (s := OpenSpec.ofChange Rows.topPrefixesSpec) own started (by kernel_rfl) Tryz.func3
    (witness_row_atRef (enc := enc) (C := Tryz.checked) false (laidWorld os) wargs rfl (by kernel_rfl) (by kernel_rfl) (by kernel_rfl)
      (OpenSpec.preRow_of_cond 8 hx (by kernel_rfl) (fun k hk => by cases hk) (by kernel_rfl) (laid_met os))) ?_
  intro W base args ds gs before hval hW _ _ _ hL _ _
  exact contract H enc W base args ds gs before hval hW hL
theorem said : Rows.TopPrefixesSaid :=
  OpenClaim.holds_of_cond 3 Tryz.f3 rfl rfl rfl rfl rfl rfl rfl ⟨rfl, rfl, rfl, rfl, rfl⟩ rfl rfl rfl rfl rfl (by kernel_rfl) Tryz.func3 closed
    (of_decide_eq_true (by kernel_rfl)) (by unfold Func.isWrapper; first | (rw [if_pos (by decide +kernel)]; kernel_rfl) | (rw [if_neg (by decide +kernel)]; exact ⟨rfl, rfl⟩))
    (fun os started H enc _ F => by rw [OpenClaim.pre_eq_preRow]; exact lifted os started H enc F)
theorem plain (f : FuncId) (fn : Func) (hf : Tryz.pinned.checked.prog.funcNamed "breadboard/breadboardtop.TopPrefixes" = some f) (hfn : Tryz.pinned.checked.prog.funcs[f]? = some fn) :
    true = Tryz.pinned.checked.prog.looks [] ∧ ∀ (j : Nat) t, fn.params[j]? = some t → Tryz.pinned.checked.prog.wantsStandIn t = false := by
  obtain rfl : f = 3 := Option.some.inj ((show Tryz.prog.funcNamed "breadboard/breadboardtop.TopPrefixes" = some 3 by kernel_rfl).symm.trans hf) |>.symm
  obtain rfl : fn = Tryz.f3 := (Option.some.inj (Tryz.func3.symm.trans hfn)).symm
  refine ⟨by kernel_rfl, fun j t ht => ?_⟩
  rw [Tryz.params3] at ht
  have hm := Array.mem_of_getElem? ht
  simp at hm
  rcases hm with rfl | rfl
  · exact (show Tryz.prog.wantsStandIn 22 = false by kernel_rfl)
  · exact (show Tryz.prog.wantsStandIn 23 = false by kernel_rfl)
theorem card : Rows.TopPrefixesCardSaid :=
  Claim7.holds_tied_plain_at .later [] _ _ _ _ said (fun _ h => by cases h) (by kernel_rfl) (fun _ h => by cases h) topPrefixes_row_tie rfl ⟨rfl, rfl⟩ (by kernel_rfl) rfl plain goes_row
#print axioms card
end lawPrefixes
end Go.Proofs.YtpjcgimgiegehaaGreatDoor
