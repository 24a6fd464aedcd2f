/- TopInstructions: every instruction is encoded to 1 to 4 bytes that are decoded to its canonical form, whatever follows, or it has an error and no bytes; the law returns true for every input, in the full form, with its tied card; no condition. -/
import Derived.Test.YtceaodnohnekkaaGreatDoorMFa
import Derived.Test.YtceaodnohnekkaaGreatDoorMGo
import Derived.Test.YtceaodnohnekkaaGreatDoorMK4
import Derived.Test.YtceaodnohnekkaaGreatDoorMK19
import Derived.Test.YtceaodnohnekkaaGreatDoorMTa
import Derived.Deep.DeepWitnessRowRef
namespace Go.Proofs.YtceaodnohnekkaaGreatDoor
open Go.ChangeShapes Go.WideShapes Go.ChangeAt Go.RowKit Go.ChangeMaps
namespace lawInstructions
set_option maxRecDepth 100000 in
theorem contract (H:Type)(enc:TypeId×Value→H)(W:World)(base:Nat)(args:Array Value)(ds gs:List (DataW H))(before:List MemPlace)
 (hval:∀(j:Nat) t v,Tryz.f3.params[j]? =some t→args[j]? =some v→Value.okWide Tryz.prog W .any base t v)
 (hW:DataW.Whole enc Tryz.prog Tryz.f3.params.toList Rows.topInstructionsSpec.vars false W args.toList ds gs before)
 (hL:laidMetH Tryz.prog Rows.topInstructionsRow.laid W):
 Calls Tryz.prog 3 args W fun e W'=>∃v,e= .returned v∧Rows.topInstructionsSpec.post enc Tryz.prog Tryz.f3 false true false false W args v W':=by
 have hW':=hW
 obtain⟨p,q,hA0,hV,rfl,hfz,hnd⟩:=hW
 have hA:DataW.TrodAll enc Tryz.prog W 0 (fun _=>true) true Tryz.f3.params.toList args.toList ds p:=hA0
 rw[Tryz.params3] at hA hval
 obtain⟨v0,vs0,d0,ds0,p0,q0,hargs,rfl,rfl,h0,r0⟩:=trodAll_cons hA
 obtain⟨v1,vs1,d1,ds1,p1,q1,rfl,rfl,rfl,h1,r1⟩:=trodAll_cons r0
 obtain⟨rfl,rfl,rfl⟩:=trodAll_nil r1
 obtain rfl:args=#[v0,v1]:=by cases args;simp_all
 obtain⟨rfl,rfl⟩:=trodVars_none hV
 clear hA0
 simp only[List.append_nil] at hW'
 have axH:∀x∈p0,x.block < W.heap.size:=fun x hx=>hW'.lt x (by simp[hx])
 have hlt1:∀x∈p1,x.block < W.heap.size:=fun x hx=>hW'.lt x (by simp[hx])
 have h0k:=h0
 have h1k:=h1
 obtain⟨s,A,l,c,rfl,hr,h64⟩:=U6 (hval 0 24 v0 rfl rfl) h0
 obtain⟨A2,d2,c2,rfl,hr2⟩:=VN (hval 1 25 v1 rfl rfl) h1
 refine (ajb s A A2 l d2 c c2 W _ _ (anx (am3 hL)) h64 hr hr2).mono fun e W' ⟨he,hb⟩=>?_
 subst he
 exact⟨_,rfl,_,_,_,[],_,[],hW',trodAll_cons_mk (shut_bool Tryz.underlying4 _) trodAll_mk0,trodAll_cons_mk (Below.trod laidOut (by kernel_rfl) (of_decide_eq_true (by kernel_rfl)) h0k hb axH) (trodAll_cons_mk (Below.trod laidOut (by kernel_rfl) (of_decide_eq_true (by kernel_rfl)) h1k hb hlt1) trodAll_mk0),rfl,hb.frame _,fun h=>by cases h⟩
theorem reads (os:Os){H:Type}(enc:TypeId×Value→H):∃places,DataW.whole enc Tryz.prog ((oG os).forCall (fun _ _=>0) ⟨#[],EW,[]⟩).memory Tryz.f3.params.toList Rows.topInstructionsSpec.vars false EW.toList 8=some ([.agg [.lit (.string []),.nil],.nil],[],places):=
 ⟨[],by kernel_rfl⟩
set_option maxRecDepth 100000 in
theorem lifted (os:Os)(started:os.Started)(H:Type)(enc:TypeId×Value→H)(F:Stop.Interp):
 ReturnsInHanded {} Tryz.checked os 3 .any ((OpenSpec.ofChange Rows.topInstructionsSpec).preRow enc Tryz.prog Tryz.f3 Rows.topInstructionsRow.domain false Rows.topInstructionsRow.laid) (((OpenSpec.ofChange Rows.topInstructionsSpec).at F).post enc Tryz.prog Tryz.f3 false true false false):=by
 obtain⟨places,hx⟩:=reads os enc
 refine returnsInHanded_of_row (C:=Tryz.checked) (s:=OpenSpec.ofChange Rows.topInstructionsSpec) own started (by kernel_rfl) Tryz.func3
  (witness_row_atRef (enc:=enc) (C:=Tryz.checked) false (oG os) EW rfl (by kernel_rfl) (by kernel_rfl) (by kernel_rfl)
    (OpenSpec.preRow_of_cond 8 hx (by kernel_rfl) (fun k hk=>by cases hk) (by kernel_rfl) (abG os))) ?_
 intro W base args ds gs before hval hW _ _ _ hL _ _
 exact contract H enc W base args ds gs before hval hW hL
theorem said:Rows.TopInstructionsSaid:=
 OpenClaim.holds_of_cond 3 Tryz.f3 rfl rfl rfl rfl rfl rfl rfl ⟨rfl,rfl,rfl,rfl,rfl⟩ rfl rfl rfl rfl rfl (by kernel_rfl) Tryz.func3 closed
  (of_decide_eq_true (by kernel_rfl)) (by unfold Func.isWrapper;first | (rw[if_pos (by decide+kernel)];kernel_rfl) | (rw[if_neg (by decide+kernel)];exact⟨rfl,rfl⟩))
  (fun os started H enc _ F=>by rw[OpenClaim.pre_eq_preRow];exact lifted os started H enc F)
theorem plain (f:FuncId)(fn:Func)(hf:Tryz.pinned.checked.prog.funcNamed "breadboard/breadboardtop.TopInstructions" =some f)(hfn:Tryz.pinned.checked.prog.funcs[f]? =some fn):
 true=Tryz.pinned.checked.prog.looks []∧∀(j:Nat) t,fn.params[j]? =some t→Tryz.pinned.checked.prog.wantsStandIn t=false:=by
 obtain rfl:f=3:=zx ((show Tryz.prog.funcNamed "breadboard/breadboardtop.TopInstructions" =some 3 by kernel_rfl).symm.trans hf) |>.symm
 obtain rfl:fn=Tryz.f3:=(zx (Tryz.func3.symm.trans hfn)).symm
 refine⟨by kernel_rfl,fun j t ht=>?_⟩
 rw[Tryz.params3] at ht
 have hm:=Array.mem_of_getElem? ht
 simp at hm
 rcases hm with rfl | rfl
 ·exact (show Tryz.prog.wantsStandIn 24=false by kernel_rfl)
 ·exact (show Tryz.prog.wantsStandIn 25=false by kernel_rfl)
theorem card:Rows.TopInstructionsCardSaid:=
 Claim7.holds_tied_plain_at .later [] _ _ _ _ said (fun _ h=>by cases h) (by kernel_rfl) (fun _ h=>by cases h) topInstructions_row_tie rfl ⟨rfl,rfl⟩ (by kernel_rfl) rfl plain ab7
#print axioms card
end lawInstructions
end Go.Proofs.YtceaodnohnekkaaGreatDoor
