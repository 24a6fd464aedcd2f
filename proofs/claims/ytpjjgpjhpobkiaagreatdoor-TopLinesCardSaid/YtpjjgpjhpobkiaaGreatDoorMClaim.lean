/- Arguments opened: bytes. -/
import Derived.Test.YtpjjgpjhpobkiaaGreatDoorMFa
import Derived.Test.YtpjjgpjhpobkiaaGreatDoorMSa
import Derived.Deep.DeepWitnessRowRef
set_option maxRecDepth 100000
namespace Go.Proofs.YtpjjgpjhpobkiaaGreatDoor
section
open Go.RowKit Go.ChangeShapes Go.WideShapes Go.Deep
theorem ajT:Tryz.prog.cellsOf 5=1:=by kernel_rfl
section
variable {H:Type} {enc:TypeId×Value→H} {w:World} {base:Nat} {spare:Nat→Bool} {held:Bool}
theorem P6 {fuel:Nat}{cs:List Value}{x:DataW H×List MemPlace}(h:DataW.trod enc Tryz.prog w base spare held fuel 22 cs=some x):
 ∃A l c,cs=[.slice A (l:List UInt8).length c]∧Rd w (fun _=>True) A (bs l)∧l.length≤c:=by
 rcases open_ints Tryz.underlying22 Tryz.underlying5 ajT h with⟨rfl,_⟩|⟨a,len,cap,zs,rfl,_,hl,hm,hz,_,hcell,hwz⟩
 ·exact⟨none,[],0,rfl,Rd.nil _ _ _,zn _⟩
 ·have hle:len≤zs.length:=by rw[hz];split<;>omega
  have e:((zs.take len).map fun z=>UInt8.ofNat z.toNat).length=len:=by rw[zI,zJ];omega
  refine⟨some a,(zs.take len).map fun z=>UInt8.ofNat z.toNat,cap,by rw[e],fun _=>⟨a,rfl,trivial,fun j u hu=>?_⟩,by rw[e];exact hl⟩
  have hj:j < len:=by
   rcases zP j len with h1|h1
   ·exact h1
   ·rw[yo (by rw[aQ,e];exact h1)] at hu;cases hu
  have hjz:j < zs.length:=zy;rw[zg (by rw[aQ,e];exact hj),Fb] at hu
  obtain rfl:=zq hu;rw[hcell j hjz];have hw:=hwz _ (vo hjz);have hb:0≤zs[j]∧zs[j]≤255:=by simpa [Lit.wf,IntKind.min,IntKind.max,IntKind.signed,IntKind.bits] using hw
  simp only[List.getElem_map,List.getElem_take,List.getD,List.getElem?_eq_getElem hjz,Option.getD_some]
  congr 2
  rw[wF];omega
theorem Wq {r:Reach}{b0:Nat}{v:Value}{d:DataW H}{ps:List MemPlace}(hval:Value.okWide Tryz.prog w r b0 22 v)(h:DataW.Trod enc Tryz.prog w base spare held 22 v d ps):
 ∃A l c,v= .slice A (l:List UInt8).length c∧Rd w (fun _=>True) A (bs l)∧l.length≤c:=by
 obtain⟨a0,len,cap,hv0⟩:=okWide_slice Tryz.underlying22 hval;obtain⟨fuel,hf⟩:=h;have hf2:DataW.trod enc Tryz.prog w base spare held fuel 22 [v]=some (d,ps):=by simpa [hv0,Value.cells] using hf
 obtain⟨A,l,c,h1,h2,h3⟩:=P6 hf2;simp only[List.cons.injEq,and_true] at h1;exact⟨A,l,c,h1,h2,h3⟩
end
end
section
open Go.ChangeShapes Go.WideShapes Go.ChangeAt Go.RowKit Go.ChangeMaps
namespace lawLines
theorem contract (H:Type)(enc:TypeId×Value→H)(W:World)(base:Nat)(args:Array Value)(ds gs:List (DataW H))(before:List MemPlace)
 (hval:∀(j:Nat) t v,Tryz.f3.params[j]? =some t→args[j]? =some v→Value.okWide Tryz.prog W .any base t v)
 (hW:DataW.Whole enc Tryz.prog Tryz.f3.params.toList Rows.topLinesSpec.vars false W args.toList ds gs before)
 (hL:laidMetH Tryz.prog Rows.topLinesRow.laid W):
 Calls Tryz.prog 3 args W fun e W'=>∃v,e= .returned v∧Rows.topLinesSpec.post enc Tryz.prog Tryz.f3 false true false false W args v W':=by
 have hW':=hW;obtain⟨p,q,hA0,hV,rfl,hfz,hnd⟩:=hW;have hA:DataW.TrodAll enc Tryz.prog W 0 (fun _=>true) true Tryz.f3.params.toList args.toList ds p:=hA0
 rw[Tryz.params3] at hA hval;obtain⟨v0,WO,d0,ds0,p0,q0,hargs,rfl,rfl,h0,r0⟩:=trodAll_cons hA;obtain⟨rfl,rfl,rfl⟩:=trodAll_nil r0;obtain rfl:args=#[v0]:=by cases args;simp_all
 obtain⟨rfl,rfl⟩:=trodVars_none hV;clear hA0;simp only[List.append_nil] at hW';have aqG:∀x∈p0,x.block < W.heap.size:=fun x hx=>hW'.lt x (by simp[hx])
 have h0k:=h0;obtain⟨A,l,c,rfl,hr,hc⟩:=Wq (hval 0 22 v0 rfl rfl) h0;refine (ahl A l c W _ (ajb (aiw hL)) hc hr).mono fun e W' ⟨he,hb⟩=>?_
 subst he;exact⟨_,rfl,_,_,_,[],_,[],hW',trodAll_cons_mk (shut_bool Tryz.underlying4 _) trodAll_mk0,trodAll_cons_mk (Below.trod laidOut zz (xu zz) h0k hb aqG) trodAll_mk0,rfl,hb.frame _,fun h=>by cases h⟩
theorem reads (os:Os){H:Type}(enc:TypeId×Value→H):∃places,DataW.whole enc Tryz.prog ((qD os).forCall (fun _ _=>0) ⟨#[],LC,[]⟩).memory Tryz.f3.params.toList Rows.topLinesSpec.vars false LC.toList 8=some ([.nil],[],places):=
 ⟨[],zz⟩
theorem lifted (os:Os)(started:os.Started)(H:Type)(enc:TypeId×Value→H)(F:Stop.Interp):
 ReturnsInHanded {} Tryz.checked os 3 .any ((OpenSpec.ofChange Rows.topLinesSpec).preRow enc Tryz.prog Tryz.f3 Rows.topLinesRow.domain false Rows.topLinesRow.laid) (((OpenSpec.ofChange Rows.topLinesSpec).at F).post enc Tryz.prog Tryz.f3 false true false false):=by
 obtain⟨places,hx⟩:=reads os enc
 refine returnsInHanded_of_row (C:=Tryz.checked) (s:=OpenSpec.ofChange Rows.topLinesSpec) own started zz Tryz.func3
  (witness_row_atRef (enc:=enc) (C:=Tryz.checked) false (qD os) LC rfl zz zz zz
    (OpenSpec.preRow_of_cond 8 hx zz (fun k hk=>by cases hk) zz (Zx os))) ?_
 intro W base args ds gs before hval hW _ _ _ hL _ _;exact contract H enc W base args ds gs before hval hW hL
theorem said:Rows.TopLinesSaid:=
 OpenClaim.holds_of_cond 3 Tryz.f3 rfl rfl rfl rfl rfl rfl rfl ⟨rfl,rfl,rfl,rfl,rfl⟩ rfl rfl rfl rfl rfl zz Tryz.func3 closed
  (xu zz) (by unfold Func.isWrapper;first|(rw[zW (by decide+kernel)];kernel_rfl)|(rw[za (by decide+kernel)];exact⟨rfl,rfl⟩))
  (fun os started H enc _ F=>by rw[OpenClaim.pre_eq_preRow];exact lifted os started H enc F)
theorem plain (f:FuncId)(fn:Func)(hf:Tryz.pinned.checked.prog.funcNamed "breadboard/breadboardtop.TopLines" =some f)(hfn:Tryz.pinned.checked.prog.funcs[f]? =some fn):
 true=Tryz.pinned.checked.prog.looks []∧∀(j:Nat) t,fn.params[j]? =some t→Tryz.pinned.checked.prog.wantsStandIn t=false:=by
 obtain rfl:f=3:=zq ((show Tryz.prog.funcNamed "breadboard/breadboardtop.TopLines" =some 3 by kernel_rfl).symm.trans hf) |>.symm
 obtain rfl:fn=Tryz.f3:=(zq (Tryz.func3.symm.trans hfn)).symm;refine⟨zz,fun j t ht=>?_⟩
 rw[Tryz.params3] at ht;have hm:=Array.mem_of_getElem? ht;simp at hm;subst hm;exact (show Tryz.prog.wantsStandIn 22=false by kernel_rfl)
theorem card:Rows.TopLinesCardSaid:=
 Claim7.holds_tied_plain_at .later [] _ _ _ _ said (fun _ h=>by cases h) zz (fun _ h=>by cases h) topLines_row_tie rfl ⟨rfl,rfl⟩ zz rfl plain Z9
#print axioms card
end lawLines
end
end Go.Proofs.YtpjjgpjhpobkiaaGreatDoor
