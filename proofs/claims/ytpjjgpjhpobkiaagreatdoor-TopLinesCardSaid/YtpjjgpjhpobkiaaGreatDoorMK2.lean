/- Parts of the proof of TopLines. -/
import Derived.Test.YtpjjgpjhpobkiaaGreatDoorMK1
import Derived.OrdersIn
import Derived.Shelf.Spec.TrailingZeros
import Derived.Laws.CopyOwn
import Derived.Lib.MakeNoZero
set_option maxHeartbeats 1000000
set_option maxRecDepth 100000
namespace Go.Proofs.YtpjjgpjhpobkiaaGreatDoor
namespace Ex
open Go.RowKit
def Bh (P:Program)(N:Nat)(ro:Option Nat)(c:Code)(t:TT)(W:AW)(x:AX)(tf:TT)(Wf:AW):Prop:=
 ∀w0 ρ a w (Q:Exit→Act→World→Prop),(∀b,ro=some b→b < W.nx)→aS ρ W.nx N t a→aJ w0 ρ W w→(∀ρ' a' w',Post w0 ρ W w ρ' Wf w'→aS ρ' Wf.nx N tf a'→Q x.NV a' w')→c.wpIn (fw (ro.map ρ.blk)) 0 P Q a w
def abQ (P:Program)(N:Nat)(ro:Option Nat)(loop:IK):Prop:=∀c t W x tf Wf,loop c t W=some (x,tf,Wf)→Bh P N ro (.loop c) t W x tf Wf
def Le (P:Program)(N:Nat)(draw:qc):Prop:=∀ro id (ops:Array Oper) t W tf Wf,draw ops.toList t W=some (tf,Wf)→Bh P N ro (.region id ops true) t W .normal tf Wf
theorem Z8 (w:World)(r:Nat)(o:Obj):Gr w (w.putObj r o) (fun i=>r=i):=⟨rfl,rfl,rfl,zw,fun i _ hi=>World.putObj_heap_other (xq hi)⟩
theorem aJ.obj {w0:World}{ρ:Env}{W:AW}{w:World}(h:aJ w0 ρ W w){k:aF}{o:Obj}(hk:k.ok W.nx)(hr:k.rep (ρ.up W.nx w.heap.size 0) (w.alloc o) W.nx):
 Post w0 ρ W w (ρ.up W.nx w.heap.size 0) (W.push k) (w.alloc o):=h.new (kF w _) (zn _) zw hk hr
theorem aJ.loop {w0:World}{ρ:Env}{W:AW}{w:World}(h:aJ w0 ρ W w){b:Nat}{st:LoopState}{pend:Option Code}{N:Nat}{t:TT}{ps:Array Tmp}{asqz bd:Code}(hb:au b W.bl=some (.loop st pend N t ps asqz bd)){r:Loop}(hr:w.heap[ρ.blk b]? =some (.loop r))(st':LoopState)(af4:Option Code):
 Post w0 ρ W w ρ ⟨W.nx,ib b (.loop st' af4 N t ps asqz bd) W.bl,addN b W.az,W.gl⟩ (w.putObj (ρ.blk b) (.loop { r with state:=st',pending:=af4})):=by
 obtain⟨p1,p2,p3,p4⟩:=h.ok b _ hb;obtain⟨r',q1,q2,q3,q4,q5,q6,q7,q8⟩:=h.rep b _ hb;rw[hr] at q1;obtain rfl:r=r':=by injection (zq q1)
 exact h.write hb (Z8 w _ _) p2 ⟨_,World.putObj_heap_same p4,rfl,rfl,q4,q5,q6,q7,q8⟩
theorem V4 {P:Program}{t tf:TT}{b:Nat}{W Wf:AW}{x:AX}(h:aaJ t b W=some (x,tf,Wf)){w0:World}{ρ:Env}{w:World}(hW:aJ w0 ρ W w):
 tf=t∧∃jump w',(Instr.endLoop (ρ.blk b)).run P w= .ok jump w'∧Post w0 ρ W w ρ Wf w'∧((jump=none∧x= .normal)∨(jump=some .ret∧x= .ret)∨∃id,jump=some (.exit id)∧x= .exit id):=by
 unfold aaJ at h;split at h
 case h_2=>cases h
 case h_1 st pend N t' ps asqz bd hb=>
 obtain⟨r,q1,q2,q3,q4⟩:=hW.rep b _ hb
 have main:st≠ .busy→Wf=⟨W.nx,ib b (.loop .exhausted pend N t' ps asqz bd) W.bl,addN b W.az,W.gl⟩→∃w',(Instr.endLoop (ρ.blk b)).run P w= .ok pend w'∧Post w0 ρ W w ρ Wf w':=fun hst e=>by
  subst e;have hend:=run_endLoop (P:=P) q1 (by rw[q2];exact hst)
  rw[q3] at hend;exact⟨_,hend,hW.loop hb q1 .exhausted pend⟩
 cases hst:Sc st with
 |false=>rw[hst] at h;cases h
 |true=>
  rw[hst] at h;simp only[cond_true] at h;have hst:st≠ .busy:=fun e=>by rw[e] at hst;cases hst
  split at h
  ·simp only[Option.some.injEq,Prod.mk.injEq] at h;obtain⟨w',h1,h2⟩:=main hst h.2.2.symm;exact⟨h.2.1.symm,_,w',h1,h2,.inl ⟨rfl,h.1.symm⟩⟩
  ·simp only[Option.some.injEq,Prod.mk.injEq] at h;obtain⟨w',h1,h2⟩:=main hst h.2.2.symm;exact⟨h.2.1.symm,_,w',h1,h2,.inr (.inl ⟨rfl,h.1.symm⟩)⟩
  ·simp only[Option.some.injEq,Prod.mk.injEq] at h;obtain⟨w',h1,h2⟩:=main hst h.2.2.symm;exact⟨h.2.1.symm,_,w',h1,h2,.inr (.inr ⟨_,rfl,h.1.symm⟩)⟩
  ·cases h
theorem Vm {ρ:Env}{n N:Nat}{t t':TT}{a:Act}{b:Nat}(h:aS ρ n N t a)(hm:Y7 N b t=some t')(hb:b < n):aS ρ n N t' { a with defers:={ target:=.collected (ρ.blk b),args:=#[]}::a.defers}:=by
 unfold Y7 at hm
 cases hN:Nat.blt N 1048575 with
 |false=>rw[hN] at hm;cases hm
 |true=>
  rw[hN] at hm;simp only[cond_true] at hm;have ho:=h.ok N;split at hm
  ·rename_i ds hds;obtain rfl:=zq hm;rw[hds] at ho;exact h.defer (aK hN) (d:=.ptr b 0) hb (by rw[hds];rfl) ho
  ·rename_i hds;obtain rfl:=zq hm;exact h.defer (aK hN) (d:=.ptr b 0) (ds:=[]) hb (by rw[hds];rfl) trivial
  ·cases hm
theorem GQ {P:Program}{ρ ρ':Env}{n N:Nat}{t:TT}{a:Act}(ht:aS ρ n N t a)(he:Ext n ρ ρ'){f:Operand}{g:Nat}{l c:List AV}(hf:ev t f= .fn (.func g) l c)(b:Nat){fn:Func}(q1:P.funcs[g]? =some fn)(q2:(fn.name == "runtime.NumGoroutine")=false)(q3:fn.body.isSome=true)(w:World):
 ∃d,(resolve a.eval (rangeCall f (ρ'.blk b)) 0).run P w= .ok d w∧(invoke d.target d.args).run P w= .ok (.enter g (aH ρ' (l++[.Bi b]++c)).toArray) w:=by
 have hfo:=ht.fQ f;rw[hf] at hfo;have hb:fn.body.isNone=false:=by cases hq:fn.body<;>simp_all
 have e1:(aH ρ l).toArray++ #[Value.func (.yield (ρ'.blk b)) #[] #[]]++(aH ρ c).toArray=(aH ρ' (l++[.Bi b]++c)).toArray:=by
  apply yE;rw[← cz he l hfo.1,← cz he c hfo.2];simp[bz,cv]
 have e2:a.eval (.const (.func (.yield (ρ'.blk b)) #[] #[]))=Value.func (.yield (ρ'.blk b)) #[] #[]:=rfl;refine⟨{ target:=.fn (.func g) (aH ρ c).toArray,args:=(aH ρ l).toArray++ #[Value.func (.yield (ρ'.blk b)) #[] #[]]},?_,?_⟩
 ·simp only[resolve,ht.eval f,hf,cv,Deferred.ofValue];simp[e2]
 ·simp only[invoke,callFunc,Sem.run_bind,Sem.run_pure,Result.andThen_ok,run_program,q1,q2,hb,Bool.false_eq_true,if_false,e1]
theorem N8 {P:Program}{w:World}{l₀:Nat}{r₀:Loop}(h:w.heap[l₀]? =some (.loop r₀))(fn:FuncId)(tmps:Array Value)(ps:Array Tmp)(assign body:Code):
 (Instr.enterLoop fn tmps ps assign body (some l₀)).run P w= .ok (w.heap.size,[]) (w.alloc (.loop { state:=.ready,pending:=none,fn,tmps,params:=ps,assign,body,defers:=r₀.defers})):=by
 unfold Instr.enterLoop;simp only[Sem.run_bind,run_getLoop h,Result.andThen,Sem.run_pure,run_newObj_alloc]
section
variable {P:Program} {call:aj}
theorem UJ (hC:ai P call){ro:Option Nat}{N:Nat}{f:Operand}{ps:Array Tmp}{asqz bd:Code}{t:TT}{W:AW}{x:AX}{tf:TT}{Wf:AW}(h:PX call ro N f ps asqz bd t W=some (x,tf,Wf)):
 Bh P N ro (.rangeFunc f ps asqz bd) t W x tf Wf:=fun w0 ρ a w Q hro ht hW hQ=>by
 unfold PX at h;split at h
 case h_2=>cases h
 case h_1 g l c hf=>
 have hfo:=ht.fQ f;rw[hf] at hfo
 have fin:∀(ro':Option Nat) (b:Nat) (dC:Env) (W2:AW) (w2:World) (a2:Act) (t2:TT) (v:AV) (W':AW),aaJ t2 b W'=some (x,tf,Wf)→Post w0 ρ W w dC W2 w2→b < W2.nx→aS dC W2.nx N t2 a2→
  Calls P g (aH dC (l++[.Bi b]++c)).toArray w2 (fun e w'=>∃ρ',e= .returned (cv ρ' v)∧Post w0 dC W2 w2 ρ' W' w'∧v.ok W'.nx)→
  CallsIn (fw ro') (0 - 1) P g (aH dC (l++[.Bi b]++c)).toArray w2 (rangePost (fw ro') 0 P (dC.blk b) Q a2):=fun ro' b dC W2 w2 a2 t2 v W' he hp2 hb ht2 hcall=>Ew (hcall.mono (by
  rintro e w' ⟨Fy,rfl,hp3,_⟩;obtain⟨rfl,jump,w4,h1,h2,h3⟩:=V4 (P:=P) he hp3.rep;rw[hp3.ext.blk b hb] at h1;refine⟨jump,w4,h1,?_⟩;have hp:=(hp2.trans hp3).trans h2;have hq:=hQ Fy a2 w4 hp (ht2.mono (hp3.ext.trans h2.ext hp3.nx) (zV hp3.nx h2.nx));rcases h3 with⟨rfl,rfl⟩|⟨rfl,rfl⟩|⟨id,rfl,rfl⟩
  ·exact hq
  ·exact wpIn_ret hq
  ·exact wpIn_exit hq))
 split at h
 ·
  split at h
  case h_2=>cases h
  case h_1 t' ht'=>
  split at h
  case h_2=>cases h
  case h_1 v W' hcall=>
  obtain⟨⟨fn,q1,q2,q3⟩,_,hc⟩:=hC _ _ _ _ _ hcall;refine wpIn_rangeFunc fun fn' _=>?_
  have p1:Post w0 ρ W w (ρ.up W.nx w.heap.size 0) (W.push .Tm) (w.alloc (.deferred (some []))):=hW.obj trivial (by
   show _=_;rw[Env.aM];exact World.alloc_heap_new w _)
  have hsz:(w.alloc (.deferred (some []))).heap.size=w.heap.size+1:=zU _ _
  have p2:Post w0 (ρ.up W.nx w.heap.size 0) (W.push .Tm) (w.alloc (.deferred (some []))) ((ρ.up W.nx w.heap.size 0).up (W.nx+1) (w.alloc (.deferred (some []))).heap.size 0) ((W.push .Tm).push (.loop .ready none N t ps asqz bd)) ((w.alloc (.deferred (some []))).alloc (.loop { state:=.ready,pending:=none,fn:=fn',tmps:=a.tmps,params:=ps,assign:=asqz,body:=bd,defers:=w.heap.size})):=p1.rep.obj (fun i=>AV.ok.mono (yY _) _ (ht.ok i)) (by
   refine⟨{ state:=.ready,pending:=none,fn:=fn',tmps:=a.tmps,params:=ps,assign:=asqz,body:=bd,defers:=w.heap.size},?_,rfl,rfl,ht.size,fun i=>?_,rfl,rfl,rfl⟩
   ·have e:(W.push .Tm).nx=W.nx+1:=rfl;rw[e,Env.aM];exact World.alloc_heap_new _ _
   ·have e1:=iV (Env.gu ρ W.nx w.heap.size 0) _ (ht.ok i);have e2:=iV (Env.gu (ρ.up W.nx w.heap.size 0) (W.nx+1) (w.alloc (.deferred (some []))).heap.size 0) _ (AV.ok.mono (yY _) _ (ht.ok i));show a.tmps.getD i undef=_;rw[ht.get i];exact (e2.trans e1).symm)
  have hp:=p1.trans p2;have hbk:((ρ.up W.nx w.heap.size 0).up (W.nx+1) (w.alloc (.deferred (some []))).heap.size 0).blk (W.nx+1)=w.heap.size+1:=by rw[Env.aM,hsz]
  have hbd:((ρ.up W.nx w.heap.size 0).up (W.nx+1) (w.alloc (.deferred (some []))).heap.size 0).blk W.nx=w.heap.size:=by
   rw[(Env.gu _ (W.nx+1) _ _).blk W.nx (zS _),Env.aM]
  obtain⟨d,hd1,hd2⟩:=GQ (P:=P) ht hp.ext hf (W.nx+1) q1 q2 q3 ((w.alloc (.deferred (some []))).alloc (.loop { state:=.ready,pending:=none,fn:=fn',tmps:=a.tmps,params:=ps,assign:=asqz,body:=bd,defers:=w.heap.size}));have hargs:oks ((W.push .Tm).push (.loop .ready none N t ps asqz bd)).nx (l++[.Bi (W.nx+1)]++c):=bC (bC (oks.mono hp.nx _ hfo.1) ⟨zS _,trivial⟩) (oks.mono hp.nx _ hfo.2)
  have ht2:aS ((ρ.up W.nx w.heap.size 0).up (W.nx+1) (w.alloc (.deferred (some []))).heap.size 0) ((W.push .Tm).push (.loop .ready none N t ps asqz bd)).nx N t' { a with defers:=[{ target:=.collected w.heap.size,args:=#[]}]++a.defers}:=by
   have:=Vm (ht.mono hp.ext hp.nx) ht' (show W.nx < W.nx+1+1 by omega)
   rw[hbd] at this;exact this
  refine⟨w.heap.size+1,[{ target:=.collected w.heap.size,args:=#[]}],_,d,_,g,_,_,run_enterLoop_outer fn' a.tmps ps asqz bd,hbk ▸ hd1,fun _ _=>trivial,hd2,fun h=>(by cases h),?_⟩
  rw[← hbk];exact fin none (W.nx+1) _ _ _ _ _ v W' h hp (zS _) ht2 (hc w0 _ _ hargs hp.rep)
 ·
  rename_i b0;split at h
  case h_2=>cases h
  case h_1 st0 pd0 N0 t0 ps0 as0 bd0 hb0=>
  split at h
  case h_2=>cases h
  case h_1 v W' hcall=>
  obtain⟨⟨fn,q1,q2,q3⟩,_,hc⟩:=hC _ _ _ _ _ hcall;obtain⟨r0,hr0,_⟩:=hW.rep b0 _ hb0;refine wpIn_rangeFunc fun fn' _=>?_
  have hp:Post w0 ρ W w (ρ.up W.nx w.heap.size 0) (W.push (.loop .ready none N t ps asqz bd)) (w.alloc (.loop { state:=.ready,pending:=none,fn:=fn',tmps:=a.tmps,params:=ps,assign:=asqz,body:=bd,defers:=r0.defers})):=hW.obj (fun i=>ht.ok i) (by
   refine⟨{ state:=.ready,pending:=none,fn:=fn',tmps:=a.tmps,params:=ps,assign:=asqz,body:=bd,defers:=r0.defers},?_,rfl,rfl,ht.size,fun i=>?_,rfl,rfl,rfl⟩
   ·rw[Env.aM];exact World.alloc_heap_new _ _
   ·show a.tmps.getD i undef=_;rw[ht.get i];exact (iV (Env.gu ρ W.nx w.heap.size 0) _ (ht.ok i)).symm)
  have hbk:(ρ.up W.nx w.heap.size 0).blk W.nx=w.heap.size:=Env.aM _ _ _ _;obtain⟨d,hd1,hd2⟩:=GQ (P:=P) ht hp.ext hf W.nx q1 q2 q3 (w.alloc (.loop { state:=.ready,pending:=none,fn:=fn',tmps:=a.tmps,params:=ps,assign:=asqz,body:=bd,defers:=r0.defers}));have hargs:oks (W.push (.loop .ready none N t ps asqz bd)).nx (l++[.Bi W.nx]++c):=bC (bC (oks.mono hp.nx _ hfo.1) ⟨zS _,trivial⟩) (oks.mono hp.nx _ hfo.2);refine⟨w.heap.size,[],_,d,_,g,_,_,N8 hr0 fn' a.tmps ps asqz bd,hbk ▸ hd1,fun _ _=>trivial,hd2,fun h=>(by cases h),?_⟩
  have:=fin (some (ρ.blk b0)) W.nx _ _ _ _ _ v W' h hp (zS _) (ht.mono hp.ext hp.nx) (hc w0 _ _ hargs hp.rep);rw[hbk] at this;exact this
end
section
variable {P:Program} {T:bH} {call ext:aj} {yl:fH} {draw:qc} {loop:IK} {ro:Option Nat} {N:Nat}
theorem Bh.next {c:Code}{t':TT}{W W':AW}{x:AX}{tf:TT}{Wf:AW}(h:Bh P N ro c t' W' x tf Wf){w0:World}{ρ ρ':Env}{w w':World}{a':Act}{Q:Exit→Act→World→Prop}(hro:∀b,ro=some b→b < W.nx)(hp:Post w0 ρ W w ρ' W' w')(ht':aS ρ' W'.nx N t' a')
 (hQ:∀ρ' a' w',Post w0 ρ W w ρ' Wf w'→aS ρ' Wf.nx N tf a'→Q x.NV a' w'):c.wpIn (fw (ro.map ρ.blk)) 0 P Q a' w':=by
 have:=h w0 ρ' a' w' Q (fun b hb=>zZ (hro b hb) hp.nx) ht' hp.rep fun ry a'' w'' hp' ZQ=>hQ ry a'' w'' (hp.trans hp') ZQ
 rwa [PQ hp.ext hro] at this
theorem fD (hT:aZ P T)(hC:ai P call)(hX:dU P ext)(hY:fF P yl)(hD:Le P N draw)(hL:abQ P N ro loop):∀(c:Code) (t:TT) (W:AW) (x:AX) (tf:TT) (Wf:AW),gD P T call ext yl draw loop ro N c t W=some (x,tf,Wf)→Bh P N ro c t W x tf Wf
 | .skip,t,W,x,tf,Wf,h=>fun w0 ρ a w Q hro ht hW hQ=>by
   simp only[gD,Option.some.injEq,Prod.mk.injEq] at h;obtain⟨rfl,rfl,rfl⟩:=h;exact wpIn_skip (hQ ρ a w (Post.refl hW) ht)
 | .region id ops d,t,W,x,tf,Wf,h=>fun w0 ρ a w Q hro ht hW hQ=>by
   simp only[gD] at h;split at h
   ·rename_i t' W' hr;simp only[Option.some.injEq,Prod.mk.injEq] at h;obtain⟨rfl,rfl,rfl⟩:=h
    cases d with
    |true=>exact hD ro id ops t W _ _ hr w0 ρ a w Q hro ht hW hQ
    |false=>exact wpIn_region_list (JB hT hC hX hY ops ops.toList hro hr ht hW hQ)
   ·cases h
 | .seq c d,t,W,x,tf,Wf,h=>fun w0 ρ a w Q hro ht hW hQ=>by
   simp only[gD] at h;split at h
   ·rename_i t' W' hr;refine wpIn_seq (fD hT hC hX hY hD hL c t W _ _ _ hr w0 ρ a w _ hro ht hW fun ρ' a' w' hp ht'=>?_)
    exact (fD hT hC hX hY hD hL d t' W' _ _ _ h).next hro hp ht' hQ
   ·rename_i hn;refine wpIn_seq (fD hT hC hX hY hD hL c t W _ _ _ h w0 ρ a w _ hro ht hW fun ρ' a' w' hp ht'=>?_)
    cases x with
    |normal=>exact (hn _ _ h).elim
    |exit id=>exact hQ ρ' a' w' hp ht'
    |ret=>exact hQ ρ' a' w' hp ht'
 | .cond b c d,t,W,x,tf,Wf,h=>fun w0 ρ a w Q hro ht hW hQ=>by
   simp only[gD] at h;have he:=ht.eval b;split at h
   ·rename_i hb;rw[hb] at he;exact wpIn_cond_true he (fD hT hC hX hY hD hL c t W _ _ _ h w0 ρ a w Q hro ht hW hQ)
   ·rename_i hb;rw[hb] at he;exact wpIn_cond_false he (fD hT hC hX hY hD hL d t W _ _ _ h w0 ρ a w Q hro ht hW hQ)
   ·cases h
 | .block id c,t,W,x,tf,Wf,h=>fun w0 ρ a w Q hro ht hW hQ=>by
   simp only[gD] at h;split at h
   ·rename_i j t' W' hr;refine wpIn_block (fD hT hC hX hY hD hL c t W _ _ _ hr w0 ρ a w _ hro ht hW fun ρ' a' w' hp ht'=>?_)
    cases hj:Nat.beq j id with
    |true=>
     rw[hj] at h;simp only[cond_true,Option.some.injEq,Prod.mk.injEq] at h;obtain⟨rfl,rfl,rfl⟩:=h;have hj:=(beq_iff _ _).1 hj;simp only[AX.NV,Exit.inBlock,hj,if_true];exact hQ ρ' a' w' hp ht'
    |false=>
     rw[hj] at h;simp only[cond_false,Option.some.injEq,Prod.mk.injEq] at h;obtain⟨rfl,rfl,rfl⟩:=h;have hj':¬j=id:=fun e=>by rw[(beq_iff _ _).2 e] at hj;cases hj
     simp only[AX.NV,Exit.inBlock,hj',if_false];exact hQ ρ' a' w' hp ht'
   ·rename_i hn;refine wpIn_block (fD hT hC hX hY hD hL c t W _ _ _ h w0 ρ a w _ hro ht hW fun ρ' a' w' hp ht'=>?_)
    cases x with
    |normal=>exact hQ ρ' a' w' hp ht'
    |exit j=>exact (hn _ _ _ h).elim
    |ret=>exact hQ ρ' a' w' hp ht'
 | .loop c,t,W,x,tf,Wf,h=>by
   simp only[gD] at h;exact hL c t W x tf Wf h
 | .exit id,t,W,x,tf,Wf,h=>fun w0 ρ a w Q hro ht hW hQ=>by
   simp only[gD,Option.some.injEq,Prod.mk.injEq] at h;obtain⟨rfl,rfl,rfl⟩:=h;exact wpIn_exit (hQ ρ a w (Post.refl hW) ht)
 | .ret,t,W,x,tf,Wf,h=>fun w0 ρ a w Q hro ht hW hQ=>by
   simp only[gD,Option.some.injEq,Prod.mk.injEq] at h;obtain⟨rfl,rfl,rfl⟩:=h;exact wpIn_ret (hQ ρ a w (Post.refl hW) ht)
 | .rangeFunc f ps asqz bd,t,W,x,tf,Wf,h=>by
   simp only[gD] at h;exact UJ hC h
 | .scope _,t,W,x,tf,Wf,h=>by simp[gD] at h
 | .label _,t,W,x,tf,Wf,h=>by simp[gD] at h
 | .goto _,t,W,x,tf,Wf,h=>by simp[gD] at h
 | .refuse _,t,W,x,tf,Wf,h=>by simp[gD] at h
end
def MV:Nat→List AV→TT→TT
 |_,[],t=>t
 |k,v::l,t=>MV (k+1) l (TT.put 20 t k v)
theorem Gm:∀(l:List AV) (k:Nat) (t:TT) (i:Nat),k+l.length≤1048575→dZ i (MV k l t)=if k≤i∧i < k+l.length then (match l[i - k]? with|some v=>v|none=>.tuple []) else dZ i t
 |[],k,t,i,_=>by
  have:¬(k≤i∧i < k+([]:List AV).length):=zw;rw[za this];rfl
 |v::l,k,t,i,h=>by
  have hl:(v::l).length=l.length+1:=rfl;rw[hl] at h;simp only[MV];rw[Gm l (k+1) _ i zy,l9 zy];by_cases h1:k=i
  ·subst h1;rw[za zy,zW rfl,zW (by rw[hl];omega)]
   simp
  ·rw[za h1];by_cases h2:k+1≤i∧i < k+1+l.length
   ·rw[zW h2,zW (by rw[hl];omega)]
    rw[show i - k=(i - (k+1))+1 by omega,vk]
   ·rw[za h2,za (by rw[hl];omega)]
theorem aS.start {ρ:Env}{n m:Nat}{args:List AV}(h:oks n args)(hl:args.length≤1000):aS ρ n (args.length+m) (MV 0 args .nil) { tmps:=(aH ρ args).toArray++Array.replicate m undef,defers:=[]}:=by
 have e:∀i,dZ i (MV 0 args .nil)=match args[i]? with|some v=>v|none=>.tuple []:=fun i=>by
  rw[Gm args 0 .nil i zy];by_cases hi:i < args.length
  ·rw[zW zy];rfl
  ·rw[za zy,yo zy];rfl
 refine⟨by simp[ay],fun i=>?_,fun i=>?_,?_⟩
 ·rw[e];simp only[Array.getD_eq_getD_getElem?];by_cases hi:i < args.length
  ·rw[Array.getElem?_append_left (by simp[ay];exact hi)]
   simp[lG,List.getElem?_eq_getElem hi]
  ·rw[Array.getElem?_append_right (by simp[ay];omega),yo zy]
   simp only[List.size_toArray,ay,Array.getElem?_replicate];split<;>rfl
 ·rw[e];split
  ·rename_i v hv;exact Cn h hv
  ·trivial
 ·rw[e,yo zy];rfl
def nC (T:bH)(bl:List (Nat×aF))(t:TT):ResultVar→Option AV
 | .tmp i=>some (dZ i t)
 | .cell p ty=>uj T bl ty (dZ p t)
def Jn (tmps:Array Value):ResultVar→Sem Value
 | .tmp t=>pure (tmps.getD t undef)
 | .cell a t=>do loadVar t (← asAddr (tmps.getD a undef))
theorem jb {P:Program}{T:bH}(hT:aZ P T){w0:World}{ρ:Env}{W:AW}{w:World}(hW:aJ w0 ρ W w){N:Nat}{t:TT}{a:Act}(ht:aS ρ W.nx N t a){r:ResultVar}{v:AV}(h:nC T W.bl t r=some v):
 (Jn a.tmps r).run P w= .ok (cv ρ v) w∧v.ok W.nx:=by
 cases r with
 |tmp i=>
  obtain rfl:=zq h;exact⟨by simp[Jn,ht.get],ht.ok i⟩
 |cell p ty=>
  have hr:∀b k,au b W.bl=some k→k.ok W.nx∧k.rep ρ w b:=fun b k hb=>⟨(hW.ok b k hb).2.1,hW.rep b k hb⟩
  obtain⟨h1,h2⟩:=qC hT (fun b _ _ k=>hr b k) (show uj T W.bl ty (dZ p t)=some v from h)
  refine⟨?_,h2⟩;have hg:=ht.get p;simp only[nC] at h;unfold uj at h;split at h
  ·rename_i b o hp;rw[hp] at h1 hg;simp only[cv] at h1 hg;simp only[Jn,hg,asAddr,Sem.run_bind,Sem.run_pure,Result.andThen_ok]
   simpa [Instr.loadAt,Instr.sureAddr] using h1
  ·cases h
def Yb (T:bH)(bl:List (Nat×aF))(t:TT):List ResultVar→Option AV
 |[]=>some (.tuple [])
 |[r]=>nC T bl t r
 |[r,s]=>match nC T bl t r,nC T bl t s with
  |some x,some y=>some (.tuple [x,y])
  |_,_=>none
 |[r,s,q]=>match nC T bl t r,nC T bl t s,nC T bl t q with
  |some x,some y,some z=>some (.tuple [x,y,z])
  |_,_,_=>none
 |_=>none
theorem PV (fn:Func)(tmps:Array Value):results fn tmps=(do let vs ← fn.results.mapM (Jn tmps);pure (if h:vs.size=1 then vs[0] else .tuple vs)):=by
 unfold results
 congr 1
theorem Mm {P:Program}{T:bH}(hT:aZ P T){w0:World}{ρ:Env}{W:AW}{w:World}(hW:aJ w0 ρ W w){N:Nat}{t:TT}{a:Act}(ht:aS ρ W.nx N t a){fn:Func}{v:AV}(h:Yb T W.bl t fn.results.toList=some v):
 (results fn a.tmps).run P w= .ok (cv ρ v) w∧v.ok W.nx:=by
 rw[PV];rcases hq:fn.results with⟨l⟩
 rw[hq] at h;dsimp only at h
 match l,h with
 |[],h=>
  obtain rfl:=zq h;exact⟨by simp[cv,aH],trivial⟩
 |[r],h=>
  obtain⟨h1,h2⟩:=jb hT hW ht (show nC T W.bl t r=some v from h)
  exact⟨by simp[h1],h2⟩
 |[r,s],h=>
  simp only[Yb] at h;split at h
  ·rename_i x y hx hy;obtain rfl:=zq h;obtain⟨h1,h2⟩:=jb hT hW ht hx;obtain⟨h3,h4⟩:=jb hT hW ht hy;exact⟨by simp[h1,h3,cv,aH],h2,h4,trivial⟩
  ·cases h
 |[r,s,q],h=>
  simp only[Yb] at h;split at h
  ·rename_i x y z hx hy hz;obtain rfl:=zq h;obtain⟨h1,h2⟩:=jb hT hW ht hx;obtain⟨h3,h4⟩:=jb hT hW ht hy;obtain⟨h5,h6⟩:=jb hT hW ht hz;exact⟨by simp[h1,h3,h5,cv,aH],h2,h4,h6,trivial⟩
  ·cases h
 |_::_::_::_::_,h=>cases h
mutual
def gL:AV→List Nat
 | .ptr b _=>[b]
 | .slice b _ _ _ _=>[b]
 | .map b=>[b]
 | .Bi b=>[b]
 | .fn _ l c=>Eg l++Eg c
 | .iface _ v=>gL v
 | .agg l=>Eg l
 | .tuple l=>Eg l
 | .uK l=>Eg l
 |_=>[]
def Eg:List AV→List Nat
 |[]=>[]
 |v::l=>gL v++Eg l
end
def aiM:TT→List Nat
 | .nil=>[]
 | .nd v l r=>gL v++aiM l++aiM r
def amE:aF→List Nat
 | .cells vs _ _=>Eg vs
 | .map es _=>es.flatMap fun x=>gL x.1++gL x.2.1
 | .lS es=>es.flatMap fun x=>gL x.1++gL x.2
 | .oP _ _=>[]
 | .nV m _ _ _=>[m]
 | .loop _ _ _ t _ _ _=>aiM t
 | .Tm=>[]
 | .img _ _=>[]
def reach (lo:Nat)(bl:List (Nat×aF)):Nat→List Nat→List Nat→List Nat
 |0,_,seen=>seen
 |_,[],seen=>seen
 |n+1,b::todo,seen=>cond (Nat.blt b lo) (reach lo bl n todo seen) (cond (iN b seen) (reach lo bl n todo seen)
  (match au b bl with
  |some k=>reach lo bl n (amE k++todo) (b::seen)
  |none=>reach lo bl n todo (b::seen)))
def gcL (lo:Nat)(seen:List Nat):List (Nat×aF)→List (Nat×aF)
 |[]=>[]
 |p::l=>cond (Nat.blt p.1 lo) (p::l) (cond (iN p.1 seen) (p::gcL lo seen l) (gcL lo seen l))
theorem J9 (lo:Nat)(seen:List Nat):∀l,(gcL lo seen l).Sublist l
 |[]=>.slnil
 |p::l=>by
  unfold gcL
  cases Nat.blt p.1 lo
  ·cases iN p.1 seen
   ·exact (J9 lo seen l).cons p
   ·exact (J9 lo seen l).cons_cons p
  ·exact List.Sublist.refl _
def P8 (lo:Nat):List Nat→List Nat
 |[]=>[]
 |b::l=>cond (Nat.blt b lo) (b::P8 lo l) (P8 lo l)
theorem uh {lo b:Nat}:∀{l:List Nat},b∈P8 lo l↔b∈l∧b < lo
 |[]=>by simp[P8]
 |x::l=>by
  unfold P8
  cases h:Nat.blt x lo with
  |true=>
   have:=aK h;simp only[cond_true,List.mem_cons,uh (l:=l)];constructor
   ·rintro (rfl|⟨h1,h2⟩)
    ·exact⟨.inl rfl,this⟩
    ·exact⟨.inr h1,h2⟩
   ·rintro ⟨rfl|h1,h2⟩
    ·exact .inl rfl
    ·exact .inr ⟨h1,h2⟩
  |false=>
   have hx:¬x < lo:=fun e=>by
    have:Nat.blt x lo=true:=by simpa [Nat.blt_eq] using e
    rw[this] at h;cases h
   simp only[cond_false,List.mem_cons,uh (l:=l)];constructor
   ·rintro ⟨h1,h2⟩;exact⟨.inr h1,h2⟩
   ·rintro ⟨rfl|h1,h2⟩
    ·exact absurd h2 hx
    ·exact⟨h1,h2⟩
def jm:List Nat→List Nat→List Nat
 |[],l=>l
 |b::m,l=>addN b (jm m l)
theorem ed {x:Nat}:∀{m l:List Nat},x∈jm m l↔x∈m∨x∈l
 |[],l=>by simp[jm]
 |b::m,l=>by rw[jm,dJ,ed,zQ,or_assoc]
def Jj (bl:List (Nat×aF)):List Nat→List Nat
 |[]=>[]
 |b::l=>match au b bl with
  |some k=>amE k++Jj bl l
  |none=>Jj bl l
def gcA (W W':AW)(v:AV):AW:=
 let old:=P8 W.nx W'.az
 ⟨W'.nx,gcL W.nx (reach W.nx W'.bl 100000 (gL v++Jj W'.bl old) []) W'.bl,jm old W.az,W'.gl⟩
theorem Post.gc {w0:World}{ρ ρ':Env}{W W':AW}{w w':World}(h:Post w0 ρ ⟨W.nx,W.bl,[],W.gl⟩ w ρ' W' w')(v:AV):Post w0 ρ W w ρ' (gcA W W' v) w':=by
 have hm:∀i,fV ρ ⟨W.nx,W.bl,[],W.gl⟩ W' i→fV ρ W (gcA W W' v) i:=fun i ⟨b,h1,h2,h3⟩=>
  ⟨b,ed.2 (.inl (uh.2 ⟨h1,h2⟩)),h2,h3⟩
 have hsub:=J9 W.nx (reach W.nx W'.bl 100000 (gL v++Jj W'.bl (P8 W.nx W'.az)) []) W'.bl;refine⟨h.ext,h.nx,fun b hb=>ed.2 (.inr hb),h.gr.mono fun i _ hi=>hm i hi,fun b h1 h2 h3=>hm _ (h.fresh b h1 h2 h3),?_,fun b hb hs=>?_,fun b hb hmm=>?_,h.gl⟩
 ·have:=h.rep.drop _ hsub;exact⟨this.below,this.ok,this.inj,this.rep,this.ng,this.gl⟩
 ·refine h.dom b hb ?_;obtain⟨k,hk⟩:=z8.1 hs;rw[mX h.rep.ng hsub hk];rfl
 ·rcases ed.1 hmm with h1|h1
  ·rcases h.old b hb (uh.1 h1).1 with h2|h2
   ·cases h2
   ·exact .inr h2
  ·exact .inl h1
theorem aJ.bK {w0:World}{ρ:Env}{W:AW}{w:World}(h:aJ w0 ρ W w):aJ w0 ρ ⟨W.nx,W.bl,[],W.gl⟩ w:=⟨h.below,h.ok,h.inj,h.rep,h.ng,h.gl⟩
theorem NG (W W':AW)(v:AV):∀b,b∈W.az→b∈(gcA W W' v).az:=fun _ hb=>ed.2 (.inr hb)
def TM (P:Program)(F:Nat→Option Func):Prop:=∀g fn,F g=some fn→P.funcs[g]? =some fn∧(fn.name == "runtime.NumGoroutine")=false
structure OM where
 call:aj
 loop:Nat→Option Nat→IK
 Ch:fH
def Zw (P:Program)(T:bH)(ext:aj)(draw:aj→fH→Nat→qc)(m:OM)(F:Nat→Option Func)(g:Nat)(args:List AV)(W:AW):Option AW:=
 match F g with
 |some fn=>match fn.body with
  |some (.seq (.region _ ops false) c)=>match ops.toList with
   |[⟨some d,.call { callee:=.builtin .recover,args:=asqz,..},_,_,_,none⟩]=>
    let N:=args.length+(fn.ntmps - args.length)
    cond (Nat.ble args.length 1000) (cond (mJ N (some d)) (cond (Nat.beq asqz.size 0)
     (match gD P T m.call ext m.Ch (draw m.call m.Ch N) (m.loop N none) none N c (dY (some d) (.raw .nilIface) (MV 0 args .nil)) W with
     |some (.exit _,_,_)=>none
     |some (_,t,W')=>match Yb T W'.bl t fn.results.toList,dZ N t with
      |some _,.tuple []=>some W'
      |_,_=>none
     |none=>none) none) none) none
   |_=>none
  |_=>none
 |none=>none
def UY (late:Nat→List AV→AW→Option AW):List AV→AW→Option AW
 |[],W=>some W
 | .ptr b _::l,W=>match au b W.bl with
   |some .Tm=>UY late l ⟨W.nx,uU b W.bl,addN b W.az,W.gl⟩
   |_=>none
 | .fn (.func g) l c::rest,W=>match late g (l++c) W with
   |some W'=>UY late rest W'
   |none=>none
 |_,_=>none
def uJ:AV→List AV
 | .uK l=>l
 |_=>[]
def QK (P:Program)(T:bH)(ext:aj)(draw:aj→fH→Nat→qc)(m:OM)(F:Nat→Option Func)(fn:Func)(args:List AV)(W:AW):Option (AV×AW):=
 match fn.body with
 |some c=>
  let N:=args.length+(fn.ntmps - args.length)
  cond (Nat.ble args.length 1000)
  (match gD P T m.call ext m.Ch (draw m.call m.Ch N) (m.loop N none) none N c (MV 0 args .nil) ⟨W.nx,W.bl,[],W.gl⟩ with
  |some (.exit _,_,_)=>none
  |some (_,t,W1)=>match UY (Zw P T ext draw m F) (uJ (dZ N t)) W1 with
   |some W'=>match Yb T W'.bl t fn.results.toList with
    |some v=>some (v,gcA W W' v)
    |none=>none
   |none=>none
  |none=>none) none
 |none=>none
def Md (N:Nat):List Nat→List AV→TT→Option TT
 |[],[],t=>some t
 |p::ps,v::vs,t=>cond (mJ N (some p)) (Md N ps vs (TT.put 20 t p v)) none
 |_,_,_=>none
def kC:AX→Option Code
 | .normal=>none
 | .exit id=>some (.exit id)
 | .ret=>some .ret
def PO (P:Program)(T:bH)(ext:aj)(draw:aj→fH→Nat→qc)(m:OM)(b:Nat)(args:List AV)(W:AW):Option (AV×AW):=
 match au b W.bl with
 |some (.loop .ready _ N t ps asqz bd)=>
  cond (Nat.blt N 1048575) (match Md N ps.toList args (TT.put 20 t N (.tuple [])) with
  |some t0=>match gD P T m.call ext m.Ch (draw m.call m.Ch N) (m.loop N (some b)) (some b) N asqz t0 ⟨W.nx,W.bl,[],W.gl⟩ with
   |some (.normal,t1,W1)=>match au b W1.bl with
    |some (.loop .ready p1 N1 t1' ps1 as1 bd1)=>
     match gD P T m.call ext m.Ch (draw m.call m.Ch N) (m.loop N (some b)) (some b) N bd t1 ⟨W1.nx,ib b (.loop .busy p1 N1 t1' ps1 as1 bd1) W1.bl,addN b W1.az,W1.gl⟩ with
     |some (x,_,W2)=>match au b W2.bl with
      |some (.loop _ _ N2 t2 ps2 as2 bd2)=>
       some (.bool (kC x).isNone,gcA W ⟨W2.nx,ib b (.loop (if (kC x).isNone then .ready else .done) (kC x) N2 t2 ps2 as2 bd2) W2.bl,addN b W2.az,W2.gl⟩ .bU)
      |_=>none
     |none=>none
    |_=>none
   |_=>none
  |none=>none) none
 |_=>none
def rP (P:Program)(T:bH)(draw:aj→fH→Nat→qc)(F:Nat→Option Func)(S ext:aj):Nat→OM
 |0=>⟨S,fun _ _ _ _ _=>none,fun _ _ _=>none⟩
 |n+1=>
  ⟨fun g args W=>match S g args W with
    |some r=>some r
    |none=>match F g with
     |some fn=>QK P T ext draw (rP P T draw F S ext n) F fn args W
     |none=>none,
   fun N ro c t W=>match gD P T (rP P T draw F S ext n).call ext (rP P T draw F S ext n).Ch (draw (rP P T draw F S ext n).call (rP P T draw F S ext n).Ch N) ((rP P T draw F S ext n).loop N ro) ro N c t W with
    |some (.normal,t',W')=>(rP P T draw F S ext n).loop N ro c t' W'
    |r=>r,
   fun b args W=>PO P T ext draw (rP P T draw F S ext n) b args W⟩
def abP (P:Program)(N:Nat)(ro:Option Nat)(loop:IK):Prop:=∀c t W x tf Wf,loop c t W=some (x,tf,Wf)→∃n,∀w0 ρ a w (Q:Exit→Act→World→Prop),(∀b,ro=some b→b < W.nx)→aS ρ W.nx N t a→aJ w0 ρ W w→
 (∀ρ' a' w',Post w0 ρ W w ρ' Wf w'→aS ρ' Wf.nx N tf a'→Q x.NV a' w')→Code.roundsIn (fw (ro.map ρ.blk)) 0 P c Q n a w
theorem abP.ok {P:Program}{N:Nat}{ro:Option Nat}{loop:IK}(h:abP P N ro loop):abQ P N ro loop:=fun c t W x tf Wf hl w0 ρ a w Q hro ht hW hQ=>by
 obtain⟨n,hn⟩:=h c t W x tf Wf hl;exact wpIn_loop_rounds n (hn w0 ρ a w Q hro ht hW hQ)
structure Bg (P:Program)(m:OM):Prop where
 call:ai P m.call
 loop:∀N ro,abP P N ro (m.loop N ro)
 Ch:fF P m.Ch
section
variable {P:Program} {T:bH} {draw:aj→fH→Nat→qc} {F:Nat→Option Func} {S ext:aj}
def CQ (P:Program)(draw:aj→fH→Nat→qc):Prop:=∀call yl N,ai P call→fF P yl→Le P N (draw call yl N)
theorem Zv (hT:aZ P T)(hF:TM P F)(hX:dU P ext)(hD:CQ P draw){m:OM}(hm:Bg P m){g:Nat}{args:List AV}{W W':AW}(h:Zw P T ext draw m F g args W=some W'){w0:World}{ρ:Env}{w:World}(ho:oks W.nx args)(hW:aJ w0 ρ W w):
 (callFunc g (aH ρ args).toArray).run P w= .ok (.enter g (aH ρ args).toArray) w∧CallsDIn (fw none) 0 P g (aH ρ args).toArray .returning w fun e u' w'=>(∃v,e= .returned v)∧u'= .returning∧∃ρ',Post w0 ρ W w ρ' W' w':=by
 unfold Zw at h;split at h
 case h_2=>cases h
 case h_1 fn hfn=>
 obtain⟨q1,q2⟩:=hF g fn hfn;split at h
 case h_2=>cases h
 case h_1 id ops c hbody=>
 split at h
 case h_2=>cases h
 case h_1 d asqz ats ty pos af hops=>
 dsimp only at h
 cases hl:Nat.ble args.length 1000 with
 |false=>rw[hl] at h;cases h
 |true=>
 cases hN:mJ (args.length+(fn.ntmps - args.length)) (some d) with
 |false=>rw[hl,hN] at h;cases h
 |true=>
 cases hs:Nat.beq asqz.size 0 with
 |false=>rw[hl,hN,hs] at h;cases h
 |true=>
 rw[hl,hN,hs] at h;simp only[cond_true] at h;have hl:=zk hl;have has:asqz=#[]:=Array.eq_empty_of_size_eq_zero ((beq_iff _ _).1 hs);subst has;split at h
 ·cases h
 ·rename_i x t W1 hne hcode;split at h
  case h_2=>cases h
  case h_1 u hu hdt=>
  obtain rfl:=zq h;have hb:fn.body.isNone=false:=by rw[hbody];rfl
  refine⟨by simp only[callFunc,Sem.run_bind,Sem.run_pure,Result.andThen_ok,run_program,q1,q2,hb,Bool.false_eq_true,if_false],?_⟩
  refine callsDIn_of_wpSIn q1 hbody trivial fun c₀ cs hu0=>?_
  have hst:=aS.start (ρ:=ρ) (n:=W.nx) (m:=fn.ntmps - args.length) ho hl;have e1:fn.ntmps - (aH ρ args).toArray.size=fn.ntmps - args.length:=by simp[ay]
  rw[e1];have amV:ops=#[⟨some d,.call { callee:=.builtin .recover,args:=#[],argTypes:=ats},ty,pos,af,none⟩]:=by rw[← hops]
  subst amV;refine wpSIn_seq (wpSIn_region ?_);have hrec:recoverD (c₀::cs)=none:=by simp[recoverD,hu0]
  have hrun:∀a:Act,(execOp a.eval (⟨some d,.call { callee:=.builtin .recover,args:=#[],argTypes:=ats},ty,pos,af,none⟩:Oper)).run P w= .ok .recover w:=fun a=>by
   simp[execOp,resolve,invoke,builtin]
  have hr0:List.range (#[(⟨some d,.call { callee:=.builtin .recover,args:=#[],argTypes:=ats},ty,pos,af,none⟩:Oper)]).size=[0]:=rfl;rw[hr0];simp only[wpOpsSIn];simp only[List.getElem?_toArray,List.getElem?_cons_zero,Region.wanted,if_true,hrun,hrec];refine⟨fun _ _=>trivial,?_⟩
  show Code.wpSIn _ _ _ c _ _ _ _;refine wpSIn_of_wpIn rfl ?_;have ht0:aS ρ W.nx (args.length+(fn.ntmps - args.length)) (dY (some d) (.raw .nilIface) (MV 0 args .nil)) (Act.put { tmps:=(aH ρ args).toArray++Array.replicate (fn.ntmps - args.length) undef,defers:=[]} (some d) .nilIface):=hst.put hN (v:=.raw .nilIface) trivial;refine fD hT hm.call hX hm.Ch (hD _ _ _ hm.call hm.Ch) ((hm.loop _ _).ok) c _ _ _ _ _ hcode w0 ρ _ w _ (fun b hb=>by cases hb) ht0 hW fun ρ' a' w' hp ht'=>?_
  obtain⟨h1,h2⟩:=Mm hT hp.rep ht' hu;have hdf:a'.defers=[]:=by rw[ht'.defers,hdt];rfl
  have hfin:a'.defers=[]∧∃u',c₀::cs={ c₀ with mode:=u'}::cs∧∃v,(results fn a'.tmps).run P w'= .ok v w'∧(∃v',Ending.returned v= .returned v')∧u'= .returning∧∃ρ',Post w0 ρ W w ρ' W1 w':=
   ⟨hdf,.returning,by rw[← hu0],_,h1,⟨_,rfl⟩,rfl,ρ',hp⟩
  cases x with
  |normal=>exact hfin
  |ret=>exact hfin
  |exit id=>exact (hne _ rfl).elim
 ·cases h
theorem afc {n:Nat}{ρ ρ':Env}(he:Ext n ρ ρ'){l:List AV}(h:oks n l):l.map (uL ρ')=l.map (uL ρ):=yt fun x hx=>Oa he ((bQ _ _).1 h x hx)
theorem Jz {fn:Func}{tmps:Array Value}{R:Ending→World→Prop}{late:Nat→List AV→AW→Option AW}
 (hL:∀g args W W',late g args W=some W'→∀w0 ρ w,oks W.nx args→aJ w0 ρ W w→(callFunc g (aH ρ args).toArray).run P w= .ok (.enter g (aH ρ args).toArray) w∧CallsDIn (fw none) 0 P g (aH ρ args).toArray .returning w fun e u' w'=>(∃v,e= .returned v)∧u'= .returning∧∃ρ',Post w0 ρ W w ρ' W' w'):
 ∀(l:List AV) {W Wf:AW} {w0:World} {ρ:Env} {w:World},UY late l W=some Wf→oks W.nx l→aJ w0 ρ W w→(∀ρ' w',Post w0 ρ W w ρ' Wf w'→∃v,(results fn tmps).run P w'= .ok v w'∧R (.returned v) w')→
  LeavesInM (fw none) 0 P fn tmps R (l.map (uL ρ)) .returning w
 |[],W,Wf,w0,ρ,w,h,_,hW,hR=>by
  simp only[UY,Option.some.injEq] at h;subst h;exact hR ρ w (Post.refl hW)
 |v::l,W,Wf,w0,ρ,w,h,ho,hW,hR=>by
  unfold UY at h;split at h
  ·rename_i e;cases e
  ·rename_i b o l' e;obtain⟨rfl,rfl⟩:=yP e;split at h
   case h_2=>cases h
   case h_1 hb=>
   have hd:w.heap[ρ.blk b]? =some (.deferred (some [])):=hW.rep b _ hb;have hp:=hW.kill hb (Z8 w (ρ.blk b) (.deferred none));refine⟨zw,.inl ⟨ρ.blk b,_,rfl,run_takeDeferred hd,?_⟩⟩;exact Jz hL _ h ho.2 hp.rep fun ρ' w' hp'=>hR ρ' w' (hp.trans hp')
  ·rename_i g la c rest e;obtain⟨rfl,rfl⟩:=yP e;split at h
   case h_2=>cases h
   case h_1 W' ZX=>
   obtain⟨hf1,hf2⟩:=ho.1;obtain⟨h1,h2⟩:=hL g _ _ W' ZX w0 ρ w (bC hf1 hf2) hW
   have e1:(aH ρ (la++c)).toArray=(aH ρ la).toArray++(aH ρ c).toArray:=by
    apply yE;simp[bz]
   refine⟨zw,.inr ⟨fun h=>(by cases h),.func g,(aH ρ c).toArray,g,(aH ρ (la++c)).toArray,rfl,?_,fun _ _=>trivial,?_⟩⟩
   ·show (invoke (.fn (.func g) (aH ρ c).toArray) (aH ρ la).toArray).run P w=_;simp only[invoke];rw[← e1];exact h1
   ·refine h2.mono ?_;rintro e u' w' ⟨⟨v,rfl⟩,rfl,ρ',hp⟩;show LeavesInM _ _ _ _ _ _ _ .returning w';have:=Jz hL _ h (oks.mono hp.nx _ ho.2) hp.rep fun ry w'' hp'=>hR ry w'' (hp.trans hp')
    rwa [afc hp.ext ho.2] at this
  ·cases h
theorem aaR (ρ:Env)(v:AV):BL ρ v=(uJ v).map (uL ρ):=by cases v<;>rfl
theorem QO {v:AV}{n:Nat}(h:v.ok n):oks n (uJ v):=by cases v<;>first|exact h|trivial
theorem V3 (hT:aZ P T)(hF:TM P F)(hX:dU P ext)(hD:CQ P draw){m:OM}(hm:Bg P m){g:Nat}{fn:Func}(hf:P.funcs[g]? =some fn)(hn:(fn.name == "runtime.NumGoroutine")=false)
 {args:List AV} {W W':AW} {v:AV} (h:QK P T ext draw m F fn args W=some (v,W')):
 (∃fn,P.funcs[g]? =some fn∧(fn.name == "runtime.NumGoroutine")=false∧fn.body.isSome=true)∧(∀b,b∈W.az→b∈W'.az)∧
 ∀w0 ρ w,oks W.nx args→aJ w0 ρ W w→Calls P g (aH ρ args).toArray w fun e w'=>∃ρ',e= .returned (cv ρ' v)∧Post w0 ρ W w ρ' W' w'∧v.ok W'.nx:=by
 unfold QK at h;split at h
 case h_2=>cases h
 case h_1 c hc=>
 dsimp only at h
 cases hl:Nat.ble args.length 1000 with
 |false=>rw[hl] at h;cases h
 |true=>
 rw[hl] at h;simp only[cond_true] at h;have hl:=zk hl;split at h
 ·cases h
 ·rename_i x t W1 hne hcode;split at h
  case h_2=>cases h
  case h_1 W2 hout=>
  split at h
  case h_2=>cases h
  case h_1 u hu=>
  obtain⟨rfl,rfl⟩:=zm (zq h);refine⟨⟨fn,hf,hn,by rw[hc];rfl⟩,NG _ _ _,fun w0 ρ w ho hW=>?_⟩
  refine (ym (n:=0)).1 (callsIn_of_wp_marks (F:=fw none) hf hc trivial ?_);have hst:=aS.start (ρ:=ρ) (n:=W.nx) (m:=fn.ntmps - args.length) ho hl;have e1:fn.ntmps - (aH ρ args).toArray.size=fn.ntmps - args.length:=by simp[ay]
  rw[e1];refine fD hT hm.call hX hm.Ch (hD _ _ _ hm.call hm.Ch) ((hm.loop _ _).ok) c _ _ _ _ _ hcode w0 ρ _ w _ (fun b hb=>by cases hb) hst hW.bK fun ρ' a' w' hp ht'=>?_
  have hfin:LeavesInM (fw none) 0 P fn a'.tmps (fun e w'=>∃ρ',e= .returned (cv ρ' u)∧Post w0 ρ W w ρ' (gcA W W2 u) w'∧u.ok (gcA W W2 u).nx) a'.defers .returning w':=by
   have hdl:a'.defers=(uJ (dZ (args.length+(fn.ntmps - args.length)) t)).map (uL ρ'):=by
    rw[ht'.defers,aaR]
   have hod:oks W1.nx (uJ (dZ (args.length+(fn.ntmps - args.length)) t)):=QO (ht'.ok _);rw[hdl];refine Jz (fun g args W W' ZX w0 ρ w ho hW=>Zv hT hF hX hD hm ZX ho hW) _ hout hod hp.rep fun ry w'' hp'=>?_
   obtain⟨h1,h2⟩:=Mm hT hp'.rep (ht'.mono hp'.ext hp'.nx) hu;exact⟨_,h1,ry,rfl,(hp.trans hp').gc u,h2⟩
  cases x with
  |normal=>exact hfin
  |ret=>exact hfin
  |exit id=>exact (hne _ rfl).elim
 ·cases h
theorem GH {ρ:Env}{n N:Nat}:∀(ps:List Nat) (vs:List AV) {t t0:TT} {a:Act},Md N ps vs t=some t0→oks n vs→aS ρ n N t a→
 ps.length=vs.length∧aS ρ n N t0 { a with tmps:=(ps.zip (aH ρ vs)).foldl (fun tm (x:Nat×Value)=>tm.setIfInBounds x.1 x.2) a.tmps}
 |[],[],t,t0,a,h,_,ht=>by
  simp only[Md,Option.some.injEq] at h;subst h;exact⟨rfl,ht⟩
 |[],_::_,t,t0,a,h,_,_=>by cases h
 |_::_,[],t,t0,a,h,_,_=>by cases h
 |p::ps,v::vs,t,t0,a,h,ho,ht=>by
  unfold Md at h
  cases hp:mJ N (some p) with
  |false=>rw[hp] at h;cases h
  |true=>
   rw[hp] at h;simp only[cond_true] at h;obtain⟨h1,h2⟩:=GH ps vs h ho.2 (ht.put hp ho.1);exact⟨by simp[h1],h2⟩
theorem UE (hT:aZ P T)(hX:dU P ext)(hD:CQ P draw){m:OM}(hm:Bg P m):fF P (PO P T ext draw m):=fun b args W v W' h=>by
 unfold PO at h;split at h
 case h_2=>cases h
 case h_1 pd N t ps asqz bd hb=>
 cases hN:Nat.blt N 1048575 with
 |false=>rw[hN] at h;cases h
 |true=>
 rw[hN] at h;simp only[cond_true] at h;have hN:=aK hN;split at h
 case h_2=>cases h
 case h_1 t0 ht0=>
 split at h
 case h_2=>cases h
 case h_1 t1 W1 hc1=>
 split at h
 case h_2=>cases h
 case h_1 p1 N1 t1' ps1 as1 bd1 hb1=>
 split at h
 case h_2=>cases h
 case h_1 x tx W2 hc2=>
 split at h
 case h_2=>cases h
 case h_1 st2 p2 N2 t2 ps2 as2 bd2 hb2=>
 obtain⟨rfl,rfl⟩:=zm (zq h);refine⟨NG _ _ _,fun w0 ρ w ho hW=>?_⟩
 obtain⟨r,q1,q2,q3,q4,q5,rfl,rfl,rfl⟩:=hW.rep b _ hb;obtain⟨p1',hob,_,_⟩:=hW.ok b _ hb
 have hcl:aS ρ W.nx N (TT.put 20 t N (.tuple [])) { tmps:=r.tmps,defers:=[]}:=by
  have e:=l9 hN t (.tuple []);refine⟨q4,fun i=>?_,fun i=>?_,?_⟩
  ·rw[e];by_cases hi:N=i
   ·subst hi;rw[zW rfl];show r.tmps.getD N undef=undef;simp[Array.getD,q4]
   ·rw[za hi];exact q5 i
  ·rw[e];split
   ·trivial
   ·exact hob i
  ·rw[e,zW rfl];rfl
 obtain⟨hlen,hst⟩:=GH r.params.toList args ht0 ho hcl;have hsz:(aH ρ args).toArray.size=r.params.size:=by simp[ay,← hlen]
 have ZZ:(r.params.zip (aH ρ args).toArray).foldl (fun tmps (x:Nat×Value)=>match x with|(t,a)=>tmps.setIfInBounds t a) r.tmps=(r.params.toList.zip (aH ρ args)).foldl (fun tm (x:Nat×Value)=>tm.setIfInBounds x.1 x.2) r.tmps:=by
  rw[← Array.foldl_toList,Array.toList_zip]
 refine⟨r.fn,_,_,_,run_yield q1 hsz,?_⟩;refine roundIn_of_wpIn trivial ?_;rw[ZZ];have hro:∀c,some b=some c→c < W.nx:=fun c hc=>by obtain rfl:=zq hc;exact p1'
 have aqM:∀ρ':Env,ρ'.blk b=ρ.blk b→Fence.wide.inRound (ρ.blk b)=fw ((some b).map ρ'.blk):=fun ρ' e=>by rw[yN,e];rfl
 rw[aqM ρ rfl];refine fD hT hm.call hX hm.Ch (hD _ _ _ hm.call hm.Ch) ((hm.loop _ _).ok) r.assign _ _ _ _ _ hc1 w0 ρ _ w _ hro hst hW.bK fun gz a1 w1 hp1 ht1=>?_
 obtain⟨r1,s1,s2,s3,_⟩:=hp1.rep.rep b _ hb1;have anf:gz.blk b=ρ.blk b:=hp1.ext.blk b p1';have ang:=run_beginRound (P:=P) s1 s2;rw[anf] at ang;refine⟨_,ang,?_⟩;have hp2:=hp1.rep.loop hb1 s1 .busy p1;have e2:({ r1 with state:=.busy,pending:=p1}:Loop)={ r1 with state:=.busy}:=by rw[← s3]
 rw[e2,anf] at hp2;have aqw:=hp1.trans hp2;refine (fD hT hm.call hX hm.Ch (hD _ _ _ hm.call hm.Ch) ((hm.loop _ _).ok) r.body _ _ _ _ _ hc2).next (W:=⟨W.nx,W.bl,[],W.gl⟩) hro aqw ht1 fun Fy a3 w3 hp3 ht3=>?_
 obtain⟨r2,u1,u2,u3,_⟩:=hp3.rep.rep b _ hb2;have aqX:Fy.blk b=ρ.blk b:=hp3.ext.blk b p1';have hend:=run_endRound (P:=P) (kC x) u1;have hp4:=hp3.rep.loop hb2 u1 (if (kC x).isNone then .ready else .done) (kC x)
 have hfin:=(hp3.trans hp4).gc (W:=W) .bU;rw[aqX] at hend hfin
 have hall:∃v w',(Instr.endRound (ρ.blk b) (kC x)).run P w3= .ok v w'∧∃ρ',Ending.returned v= .returned (cv ρ' (.bool (kC x).isNone))∧Post w0 ρ W w ρ' (gcA W ⟨W2.nx,ib b (.loop (if (kC x).isNone then .ready else .done) (kC x) N2 t2 ps2 as2 bd2) W2.bl,addN b W2.az,W2.gl⟩ .bU) w'∧(AV.bool (kC x).isNone).ok W2.nx:=
  ⟨_,_,hend,Fy,rfl,hfin,trivial⟩
 cases x with
 |normal=>exact hall
 |ret=>exact hall
 |exit id=>exact hall
theorem JO (hT:aZ P T)(hF:TM P F)(hS:ai P S)(hX:dU P ext)(hD:CQ P draw):∀n,Bg P (rP P T draw F S ext n)
 |0=>⟨hS,fun N ro c t W x tf Wf h=>by (cases h),fun b args W v W' h=>by (cases h)⟩
 |n+1=>by
  have ih:=JO hT hF hS hX hD n;refine⟨fun g args W v W' h=>?_,fun N ro c t W x tf Wf h=>?_,UE hT hX hD ih⟩
  ·simp only[rP] at h;split at h
   ·rename_i r hr;obtain rfl:=zq h;exact hS g args W v W' hr
   ·split at h
    ·rename_i fn hfn;obtain⟨h1,h2⟩:=hF g fn hfn;exact V3 hT hF hX hD ih h1 h2 h
    ·cases h
  ·simp only[rP] at h;split at h
   ·rename_i t' W' hr;obtain⟨k,hk⟩:=ih.loop N ro c t' W' x tf Wf h;refine⟨k+1,fun w0 ρ a w Q hro ht hW hQ=>?_⟩
    rw[roundsIn_succ];refine fD hT ih.call hX ih.Ch (hD _ _ _ ih.call ih.Ch) ((ih.loop N ro).ok) c t W _ _ _ hr w0 ρ a w _ hro ht hW fun ρ' a' w' hp ht'=>?_
    have:=hk w0 ρ' a' w' Q (fun b hb=>zZ (hro b hb) hp.nx) ht' hp.rep fun ry a'' w'' hp' ZQ=>hQ ry a'' w'' (hp.trans hp') ZQ
    rwa [PQ hp.ext hro] at this
   ·rename_i hn;refine⟨1,fun w0 ρ a w Q hro ht hW hQ=>?_⟩
    rw[roundsIn_succ];refine fD hT ih.call hX ih.Ch (hD _ _ _ ih.call ih.Ch) ((ih.loop N ro).ok) c t W _ _ _ h w0 ρ a w _ hro ht hW fun ρ' a' w' hp ht'=>?_
    cases x with
    |normal=>exact (hn _ _ h).elim
    |exit id=>exact hQ ρ' a' w' hp ht'
    |ret=>exact hQ ρ' a' w' hp ht'
end
section
variable {P:Program} {ops:Array Oper} {Q:Exit→Act→World→Prop} {md:Region.Mode} {S:World→Prop} {z:Nat} {rb:Option Nat}
theorem JW {i:Nat}{o:Oper}{v:Value}{a:Act}(hi:ops[i]? =some o)(hy:YieldsIf P ops S o v a)
 {K:Act→World→Prop} {w:World} (hS:S w) (h:K (a.put o.dst v) w):wpOpIn (fw rb) 0 P ops Q i K a w:=by
 unfold Go.wpOpIn;simp only[hi];rcases hy with⟨hw,hv⟩|⟨hw,rfl⟩
 ·simp only[hw,if_true];refine⟨fun _ _=>trivial,?_⟩
  have hnd:∀c,o.op≠ .defer c:=fun c hd=>by
   have:=hv w hS;obtain⟨dst,op,type,pos,after,guard⟩:=o;dsimp only at hd;subst hd;simp only[execOp,Sem.run_bind] at this;generalize (resolve a.eval c type).run P w=r at this
   cases r<;>simp[Result.andThen] at this
  rw[xO _ _ _ hnd,hv w hS];exact h
 ·simp only[hw,Bool.false_eq_true,if_false];exact⟨fun _ _=>trivial,h⟩
theorem R4 {j:Nat}{oi oj:Oper}{v:Value}(hj:ops[j]? =some oj)(hap:oi.apart ops oj=true)
 (hsi:∀cs b,oi.op≠ .select cs b) (hsj:∀cs b,oj.op≠ .select cs b) (hnd:∀c,oj.op≠ .defer c)
 (hQ:∀c a w,Q (.panic c) (a.put oi.dst v) w→Q (.panic c) a w) {K:Act→World→Prop} {a:Act} {w:World}
 (hy:YieldsIf P ops S oi v a) (h:wpOpIn (fw rb) 0 P ops Q j K (a.put oi.dst v) w):
 wpOpIn (fw rb) 0 P ops Q j (fun a' w'=>YieldsIf P ops S oi v a'∧K (a'.put oi.dst v) w') a w:=by
 obtain⟨h1,h2,h3⟩:=wY hap
 have keep:∀(a:Act),YieldsIf P ops S oi v a→∀u,YieldsIf P ops S oi v (a.put oj.dst u):=fun a hy u=>
  hy.of_same (wK oi hsi a oj.dst u h3) (wanted_put oi a oj.dst u h3)
 unfold wpOpIn at *;simp only[hj] at *;rw[wanted_put oj a oi.dst v h1] at h;split
 ·rename_i hw;simp only[hw,if_true] at h;unfold Oper.wpIn at *;refine⟨fun _ _=>trivial,?_⟩
  have h:=h.2;rw[xO _ _ _ hnd,wK oj hsj a oi.dst v h1] at h;rw[xO _ _ _ hnd];generalize (execOp a.eval oj).run P w=r at *
  cases r with
  |ok x w'=>
   cases x<;>simp only[Oper.uponIn] at h ⊢
   case value u=>exact⟨keep a hy u,by rw[← xU a v u h2];exact h⟩
   case skip=>exact⟨keep a hy _,by rw[← xU a v undef h2];exact h⟩
   case defer d=>
    refine⟨(hy.of_same rfl rfl:YieldsIf P ops S oi v { a with defers:=d::a.defers}).of_same (wK oi hsi _ oj.dst undef h3) (wanted_put oi _ oj.dst undef h3),?_⟩
    rw[← xU _ v undef h2,← Act.put_defers];exact h
   case enter f args=>
    refine⟨h.1,CallsIn.mono h.2 fun e w'' he=>?_⟩
    cases e with
    |returned u=>exact⟨keep a hy u,by rw[← xU a v u h2];exact he⟩
    |panicked c=>exact hQ _ _ _ he
    |outgrown=>exact he
   case row row args=>exact⟨h.1,RowsIn.mono h.2 fun u w'' he=>⟨keep a hy u,by rw[← xU a v u h2];exact he⟩⟩
   case round l f tmps assign body=>
    refine⟨h.1,RoundIn.mono h.2 fun e w'' he=>?_⟩
    cases e with
    |returned u=>exact⟨keep a hy u,by rw[← xU a v u h2];exact he⟩
    |panicked c=>exact hQ _ _ _ he
    |outgrown=>exact he
  |halt x w'=>
   cases x<;>simp only[Oper.uponIn] at h ⊢
   case panic u=>exact hQ _ _ _ h
 ·rename_i hw;simp only[hw] at h;exact⟨fun _ _=>trivial,keep a hy _,by rw[← xU a v undef h2];exact h.2⟩
def bD (P:Program)(md:Region.Mode)(ops:Array Oper)(Q:Exit→Act→World→Prop)(S:World→Prop)(z:Nat)(rb:Option Nat):Nat→Array Bool→Act→World→Prop
 |0,listed,a,w=>Region.ready md ops listed=[]∧Q .normal a w
 |fuel+1,listed,a,w=>
  (Region.ready md ops listed=[]→Q .normal a w)∧
  ∀i∈Region.ready md ops listed,wpOpIn (fw rb) 0 P ops Q i (fun a' w'=>((listed.setIfInBounds i true).getD z false=false→S w')∧bD P md ops Q S z rb fuel (listed.setIfInBounds i true) a' w') a w
theorem ni:∀(fuel:Nat) (listed:Array Bool) (a:Act) (w:World),bD P md ops Q S z rb fuel listed a w→wpAnyIn (fw rb) 0 P md ops Q fuel listed a w
 |0,_,_,_,h=>h
 |fuel+1,_,_,_,h=>⟨h.1,fun i hi=>wpOpIn_mono (fun a' w' h'=>ni fuel _ a' w' h'.2) (h.2 i hi)⟩
theorem gW {xs:Array Bool}{j k:Nat}(b:Bool)(h:j≠k):(xs.setIfInBounds j b).getD k false=xs.getD k false:=by
 rw[yB,yB,yU h]
theorem IW {i:Nat}{oi:Oper}{v:Value}(hi:ops[i]? =some oi)(hsel:∀(j:Nat) (o:Oper) cs b,ops[j]? =some o→o.op≠ .select cs b)(hnd:∀(j:Nat) (o:Oper),ops[j]? =some o→∀c,o.op≠ .defer c)
 (hQ:∀c a w,Q (.panic c) (a.put oi.dst v) w→Q (.panic c) a w) (hiz:i≠z) (hz:∀oz,ops[z]? =some oz→∃e∈oz.after,Region.binds md e=true∧e.on=i):
 ∀(fuel:Nat) (listed:Array Bool) (a:Act) (w:World),
  (∀j oj,ops[j]? =some oj→j≠i→listed.getD j true=false→(∀e∈oj.after,Region.binds md e=true→e.on≠i)→oi.apart ops oj=true)→
  i∈Region.ready md ops listed→YieldsIf P ops S oi v a→S w→listed.getD z false=false→
  bD P md ops Q S z rb fuel (listed.setIfInBounds i true) (a.put oi.dst v) w→bD P md ops Q S z rb (fuel+1) listed a w:=by
 intro fuel
 induction fuel with
 |zero=>
  intro listed a w _ hr hy hS _ H;refine⟨fun h=>(by rw[h] at hr;cases hr),fun j hj=>?_⟩
  by_cases hji:j=i
  ·subst hji;exact JW hi hy hS ⟨fun _=>hS,H⟩
  ·have:=wX hj hji;rw[H.1] at this
   cases this
 |succ fuel ih=>
  intro listed a w hfree hr hy hS hzu H;refine⟨fun h=>(by rw[h] at hr;cases hr),fun j hj=>?_⟩
  by_cases hji:j=i
  ·subst hji;exact JW hi hy hS ⟨fun _=>hS,H⟩
  ·have h1:=H.2 j (wX hj hji);obtain⟨hjun,oj,hoj,hall⟩:=wL.1 hj
   have hnot:∀e∈oj.after,Region.binds md e=true→e.on≠i:=fun e he hb heq=>by
    have h1:=hall e he hb;have h0:=(wL.1 hr).1;rw[heq] at h1;rcases zP i listed.size with h'|h'
    ·simp[h'] at h0 h1;rw[h0] at h1;cases h1
    ·simp[Array.getElem?_eq_none h'] at h1
   have hjz:j≠z:=fun e=>by
    subst e;obtain⟨x,hx,hb,hx2⟩:=hz oj hoj;exact hnot x hx hb hx2
   have h2:=R4 hoj (hfree j oj hoj hji hjun hnot) (fun cs b=>hsel i oi cs b hi) (fun cs b=>hsel j oj cs b hoj) (hnd j oj hoj) hQ hy h1
   have hfree':∀k ok,ops[k]? =some ok→k≠i→(listed.setIfInBounds j true).getD k true=false→
    (∀e∈ok.after,Region.binds md e=true→e.on≠i)→oi.apart ops ok=true:=fun k ok hk hki hun hno=>by
    refine hfree k ok hk hki ?_ hno;by_cases hjk:j=k
    ·subst hjk;exact hjun
    ·rw[getD_set_ne true hjk] at hun;exact hun
   have aqh:(listed.setIfInBounds j true).getD z false=false:=by rw[gW true hjz];exact hzu
   have hS':((listed.setIfInBounds i true).setIfInBounds j true).getD z false=false:=by rw[gW true hjz,gW true hiz];exact hzu
   refine wpOpIn_mono (fun a' w' h3=>⟨fun _=>h3.2.1 hS',ih (listed.setIfInBounds j true) a' w' hfree' (wX hr (xq hji)) h3.1 (h3.2.1 hS') aqh ?_⟩) h2
   rw[yK _ _ hji];exact h3.2.2
theorem FL {i:Nat}{oi:Oper}{v:Value}(hi:ops[i]? =some oi)(hsel:∀(j:Nat) (o:Oper) cs b,ops[j]? =some o→o.op≠ .select cs b)(hnd:∀(j:Nat) (o:Oper),ops[j]? =some o→∀c,o.op≠ .defer c)
 (hQ:∀c a w,Q (.panic c) (a.put oi.dst v) w→Q (.panic c) a w) (hiz:i≠z):
 ∀(fuel:Nat) (listed:Array Bool) (a:Act) (w:World),
  (∀j oj,ops[j]? =some oj→j≠i→listed.getD j true=false→(∀e∈oj.after,Region.binds md e=true→e.on≠i)→oi.apart ops oj=true)→
  i∈Region.ready md ops listed→YieldsIf P ops (fun _=>True) oi v a→(listed.getD z false=false→S w)→
  bD P md ops Q S z rb fuel (listed.setIfInBounds i true) (a.put oi.dst v) w→bD P md ops Q S z rb (fuel+1) listed a w:=by
 intro fuel;have key:∀(listed:Array Bool) (w:World),(listed.getD z false=false→S w)→(listed.setIfInBounds i true).getD z false=false→S w:=fun listed w h h2=>h (by rwa [gW true hiz] at h2)
 induction fuel with
 |zero=>
  intro listed a w _ hr hy hS H;refine⟨fun h=>(by rw[h] at hr;cases hr),fun j hj=>?_⟩
  by_cases hji:j=i
  ·subst hji;exact JW hi hy trivial ⟨key listed w hS,H⟩
  ·have:=wX hj hji;rw[H.1] at this
   cases this
 |succ fuel ih=>
  intro listed a w hfree hr hy hS H;refine⟨fun h=>(by rw[h] at hr;cases hr),fun j hj=>?_⟩
  by_cases hji:j=i
  ·subst hji;exact JW hi hy trivial ⟨key listed w hS,H⟩
  ·have h1:=H.2 j (wX hj hji);obtain⟨hjun,oj,hoj,hall⟩:=wL.1 hj
   have hnot:∀e∈oj.after,Region.binds md e=true→e.on≠i:=fun e he hb heq=>by
    have h1:=hall e he hb;have h0:=(wL.1 hr).1;rw[heq] at h1;rcases zP i listed.size with h'|h'
    ·simp[h'] at h0 h1;rw[h0] at h1;cases h1
    ·simp[Array.getElem?_eq_none h'] at h1
   have h2:=R4 hoj (hfree j oj hoj hji hjun hnot) (fun cs b=>hsel i oi cs b hi) (fun cs b=>hsel j oj cs b hoj) (hnd j oj hoj) hQ hy h1
   have hfree':∀k ok,ops[k]? =some ok→k≠i→(listed.setIfInBounds j true).getD k true=false→
    (∀e∈ok.after,Region.binds md e=true→e.on≠i)→oi.apart ops ok=true:=fun k ok hk hki hun hno=>by
    refine hfree k ok hk hki ?_ hno;by_cases hjk:j=k
    ·subst hjk;exact hjun
    ·rw[getD_set_ne true hjk] at hun;exact hun
   have hS':∀w',(((listed.setIfInBounds i true).setIfInBounds j true).getD z false=false→S w')→(listed.setIfInBounds j true).getD z false=false→S w':=fun w' h h2=>h (by rw[yK _ _ (xq hji),gW true hiz];exact h2)
   refine wpOpIn_mono (fun a' w' h3=>⟨hS' w' h3.2.1,ih (listed.setIfInBounds j true) a' w' hfree' (wX hr (xq hji)) h3.1 (hS' w' h3.2.1) ?_⟩) h2
   rw[yK _ _ hji];exact h3.2.2
theorem kX {i:Nat}{oi:Oper}{v:Value}{fuel:Nat}{listed:Array Bool}{a:Act}{w:World}(hi:ops[i]? =some oi)
 (hs:Region.noSelect ops=true) (hnd:∀(j:Nat) (o:Oper),ops[j]? =some o→∀c,o.op≠ .defer c) (hf:Region.free md ops listed i=true) (hr:(Region.ready md ops listed).contains i=true)
 (hQ:∀c a w,Q (.panic c) (a.put oi.dst v) w→Q (.panic c) a w) (hiz:i≠z) (hS:S w) (hzu:listed.getD z false=false)
 (hy:YieldsIf P ops (fun _=>True) oi v a∨((∀oz,ops[z]? =some oz→∃e∈oz.after,Region.binds md e=true∧e.on=i)∧YieldsIf P ops S oi v a))
 (h:bD P md ops Q S z rb fuel (listed.setIfInBounds i true) (a.put oi.dst v) w):bD P md ops Q S z rb (fuel+1) listed a w:=by
 rcases hy with hy|⟨hz,hy⟩
 ·exact FL hi (xS hs) hnd hQ hiz fuel listed a w (Region.free_spec hi hf) (by simpa using hr) hy (fun _=>hS) h
 ·exact IW hi (xS hs) hnd hQ hiz hz fuel listed a w (Region.free_spec hi hf) (by simpa using hr) hy hS hzu h
theorem dG {rs:List Nat}{fuel:Nat}{listed:Array Bool}{a:Act}{w:World}(hr:Region.ready md ops listed=rs)(hne:rs≠[])
 (h:∀i∈rs,wpOpIn (fw rb) 0 P ops Q i (fun a' w'=>((listed.setIfInBounds i true).getD z false=false→S w')∧bD P md ops Q S z rb fuel (listed.setIfInBounds i true) a' w') a w):bD P md ops Q S z rb (fuel+1) listed a w:=
 ⟨fun h0=>absurd (hr ▸ h0) hne,hr ▸ h⟩
theorem oI {listed:Array Bool}{a:Act}{w:World}(hr:Region.ready md ops listed=[])(h:Q .normal a w):
 ∀fuel,bD P md ops Q S z rb fuel listed a w
 |0=>⟨hr,h⟩
 |_+1=>⟨fun _=>h,by rw[hr];simp⟩
end
def lh:Op→Bool
 | .store .. | .alloc _ | .box .. | .buildSlice .. =>false
 | .call c=>match c.callee with
   | .builtin .len=>true
   | .builtin .min=>true
   | .builtin .max=>true
   |_=>false
 |_=>true
def Qu:Op→Bool
 | .load .. =>true
 |_=>false
def dP (o:Oper):List Nat:=(o.after.toList.filter fun e=>Region.binds .any e).map (·.on)
theorem Qf {o:Oper}{i:Nat}:i∈dP o↔∃e∈o.after,Region.binds .any e=true∧e.on=i:=by
 unfold dP;constructor
 ·intro h;obtain⟨e,he,rfl⟩:=zX.1 h;obtain⟨h1,h2⟩:=xQ.1 he;exact⟨e,by simpa using h1,h2,rfl⟩
 ·rintro ⟨e,he,hb,rfl⟩;exact zX.2 ⟨e,xQ.2 ⟨by simpa using he,hb⟩,rfl⟩
def Gd (ops:Array Oper):Nat:=match ops[ops.size - 1]? with
 |some oz=>cond (lh oz.op) ops.size (cond ((List.range (ops.size - 1)).all fun i=>match ops[i]? with|some o=>cond (Qu o.op) (iN i (dP oz)) true|none=>true) (ops.size - 1) ops.size)
 |none=>ops.size
structure ZOk (ops:Array Oper)(z:Nat):Prop where
 put:∀oz,ops[z]? =some oz→lh oz.op=false
 ld:∀oz,ops[z]? =some oz→∀i o,ops[i]? =some o→Qu o.op=true→i≠z→∃e∈oz.after,Region.binds .any e=true∧e.on=i
theorem Lv (ops:Array Oper):ZOk ops (Gd ops):=by
 unfold Gd
 cases hl:ops[ops.size - 1]? with
 |none=>exact⟨fun oz h=>by simp at h,fun oz h=>by simp at h⟩
 |some o=>
  simp only
  cases hp:lh o.op with
  |true=>exact⟨fun oz h=>by simp at h,fun oz h=>by simp at h⟩
  |false=>
   simp only[cond_false]
   cases hq:(List.range (ops.size - 1)).all fun i=>match ops[i]? with|some o'=>cond (Qu o'.op) (iN i (dP o)) true|none=>true with
   |false=>exact⟨fun oz h=>by simp at h,fun oz h=>by simp at h⟩
   |true=>
    simp only[cond_true];refine⟨fun oz h=>?_,fun oz h i oi hi hld hne=>?_⟩
    ·rw[hl] at h;obtain rfl:=zq h;exact hp
    ·rw[hl] at h;obtain rfl:=zq h;have hlt:i < ops.size:=(zT.1 hi).1;have:=zY.1 hq i (yS.2 zy);simp only[hi,hld,cond_true] at this;exact Qf.1 (jy this)
def kG (m z n:Nat):Bool:=Nat.beq (Nat.lor m (Nat.shiftLeft 1 z)) (Nat.sub (Nat.pow 2 n) 1)
def qa (K:Act→World→Prop):Exit→Act→World→Prop
 | .normal,a,w=>K a w
 |_,_,_=>False
def takeA (P:Program)(T:bH)(t:TT)(W:AW)(o:Oper):Option (AV×AW×Option Nat):=
 match qW T t o.op with
 |some v=>some (v,W,none)
 |none=>match XE T t o.op with
  |some v=>some (v,W,none)
  |none=>match Ku T t W o.op with
   |some r=>some (r.1,r.2,none)
   |none=>match o.op with
    | .load e x=>match ev t x with
      | .ptr b _=>(uj T W.bl e (ev t x)).map fun v=>(v,W,some b)
      | .jK _ _=>(SY T W.gl e (ev t x)).map fun v=>(v,W,none)
      |_=>none
    |_=>(EL P t o).map fun v=>(v,W,none)
def lW (P:Program)(T:bH)(N eD:Nat)(ops:Array Oper)(listed:Array Bool)(t:TT)(W:AW):List Nat→Option (Nat×AV×AW×Option Nat×Option Nat)
 |[]=>none
 |i::rest=>match ops[i]? with
  |some o=>
   if lh o.op && mJ N o.dst && Region.free .any ops listed i then
    if fM N t ops.toList o then
     match takeA P T t W o with
     |some (v,W',some b)=>if Nat.blt b eD then some (i,v,W',some b,o.dst) else lW P T N eD ops listed t W rest
     |some (v,W',none)=>some (i,v,W',none,o.dst)
     |none=>lW P T N eD ops listed t W rest
    else some (i,.tuple [],W,none,o.dst)
   else lW P T N eD ops listed t W rest
  |none=>lW P T N eD ops listed t W rest
def tb (m i:Nat):Bool:=Nat.beq (Nat.land (Nat.shiftRight m i) 1) 1
def dH (m i:Nat):Nat:=Nat.lor m (Nat.shiftLeft 1 i)
theorem sH (m i:Nat):tb m i=m.testBit i:=by
 unfold tb Nat.testBit;show Nat.beq ((m >>> i) &&& 1) 1=((1 &&& (m >>> i)) != 0);rw[Nat.and_comm 1,Nat.and_one_is_mod];rcases wE (m >>> i) with h|h<;>rw[h]<;>rfl
theorem fO (m i j:Nat):tb (dH m i) j=(decide (i=j) || tb m j):=by
 rw[sH,sH];show (m ||| (1 <<< i)).testBit j=_;rw[Nat.testBit_or,Nat.one_shiftLeft,vK,Bool.or_comm]
def KR (m:Nat):List Nat→Bool
 |[]=>true
 |d::l=>cond (tb m d) (KR m l) false
theorem lJ (m:Nat):∀l:List Nat,KR m l=l.all (tb m)
 |[]=>rfl
 |d::l=>by
  unfold KR;rw[lJ m l,vw]
  cases tb m d<;>rfl
abbrev Info:=List (Nat×List Nat×List Nat)
def YJ (ops:Array Oper)(i j:Nat):Bool:=match ops[i]? with
 |some oi=>(match ops[j]? with
  |some oj=>oj.after.any (fun e=>Region.binds .any e && e.on == i) || oi.apart ops oj
  |none=>true)
 |none=>true
def infoAt (ops:Array Oper)(i:Nat):Nat×List Nat×List Nat:=(i,(match ops[i]? with|some o=>dP o|none=>[i]),(List.range ops.size).filter fun j=>!(j == i) && !YJ ops i j)
def cu (ops:Array Oper):Info:=(List.range ops.size).map (infoAt ops)
def dM (info:Info)(m:Nat):Info:=info.filter fun x=>cond (tb m x.1) false (KR m x.2.1)
structure RelB (n:Nat)(listed:Array Bool)(m:Nat):Prop where
 size:listed.size=n
 get:∀j,j < n→listed[j]? =some (tb m j)
 out:∀j,n≤j→tb m j=false
theorem RelB.aab {n:Nat}{listed:Array Bool}{m:Nat}(h:RelB n listed m){j:Nat}(hj:j < n)(d:Bool):listed.getD j d=tb m j:=by
 rw[yB,h.get j hj];rfl
theorem RelB.aac {n:Nat}{listed:Array Bool}{m:Nat}(h:RelB n listed m)(j:Nat):listed.getD j false=tb m j:=by
 by_cases hj:j < n
 ·exact h.aab hj false
 ·rw[h.out j zy,yB,xg (by rw[h.size];omega)];rfl
theorem RelB.set {n:Nat}{listed:Array Bool}{m:Nat}(h:RelB n listed m){i:Nat}(hi:i < n):RelB n (listed.setIfInBounds i true) (dH m i):=by
 refine⟨by simp[h.size],fun j hj=>?_,fun j hj=>?_⟩
 ·rw[fO];by_cases hij:i=j
  ·subst hij;rw[yO (by rw[h.size];exact hi)]
   simp
  ·rw[yU hij,h.get j hj];simp[hij]
 ·rw[fO,h.out j hj];simp;omega
theorem RelB.start (n:Nat):RelB n (Array.replicate n false) 0:=by
 have h0:∀j,tb 0 j=false:=fun j=>by rw[sH];exact Nat.zero_testBit j
 refine⟨zw,fun j hj=>?_,fun j _=>h0 j⟩
 rw[h0,Array.getElem?_replicate,zW hj]
theorem jV {ops:Array Oper}{listed:Array Bool}{m:Nat}(h:RelB ops.size listed m):(dM (cu ops) m).map (·.1)=Region.ready .any ops listed:=by
 unfold dM cu Region.ready;rw[List.filter_map,yC];have e:((fun x:Nat×List Nat×List Nat=>x.1) ∘ infoAt ops)=id:=by funext i;rfl
 rw[e,vz];refine List.filter_congr fun i hi=>?_
 have hi:=yS.1 hi;have ho:ops[i]? =some ops[i]:=xN hi;show cond (tb m i) false (KR m (infoAt ops i).2.1)=_;rw[h.aab hi true];simp only[infoAt,ho,lJ,Option.map_some,Option.getD_some,dP]
 have e1:((ops[i].after.toList.filter fun e=>Region.binds .any e).map (·.on)).all (tb m)=ops[i].after.all fun e=>!Region.binds .any e || listed.getD e.on false:=by
  rw[List.all_map,List.all_filter,← Array.all_toList]
  congr 1
  funext e
  simp only[Function.comp_apply,h.aac]
 rw[e1]
 cases tb m i<;>simp
theorem free_eq {ops:Array Oper}{listed:Array Bool}{m:Nat}(h:RelB ops.size listed m){i:Nat}{o:Oper}(ho:ops[i]? =some o):KR m (infoAt ops i).2.2=Region.free .any ops listed i:=by
 unfold Region.free;simp only[ho,infoAt,lJ];rw[List.all_filter]
 have key:∀l:List Nat,(∀j∈l,j < ops.size)→(l.all fun j=>!(!(j == i) && !YJ ops i j) || tb m j)=(l.all fun j=>j == i || listed.getD j true || match ops[j]? with|some oj=>oj.after.any (fun e=>Region.binds .any e && e.on == i) || o.apart ops oj|none=>true):=fun l=>by
  induction l with
  |nil=>intro _;rfl
  |cons j l ih=>
   intro hl;rw[vw,vw,ih fun k hk=>hl k (ze _ hk),h.aab (hl j zb) true]
   congr 1
   simp only[YJ,ho]
   cases j == i<;>cases tb m j<;>simp
 have hr:∀j∈List.range ops.size,j < ops.size:=fun j hj=>yS.1 hj
 exact key _ hr
def opY (P:Program)(T:bH)(call ext:aj)(yl:fH)(t:TT)(W:AW)(o:Oper):Option (AV×AW):=
 match o.op with
 | .call { callee:=.value f,args,..}=>match ev t f with
   | .Bi b=>yl b (args.toList.map (ev t)) W
   |_=>uY P T call ext t W o
 |_=>uY P T call ext t W o
theorem MQ {P:Program}{T:bH}{call ext:aj}{yl:fH}(hC:ai P call)(hX:dU P ext)(hY:fF P yl){t:TT}{W W':AW}{o:Oper}{v:AV}(h:opY P T call ext yl t W o=some (v,W')):∀b,b∈W.az→b∈W'.az:=by
 unfold opY at h;split at h
 ·split at h
  ·exact (hY _ _ _ _ _ h).1
  ·exact MR hC hX h
 ·exact MR hC hX h
theorem YH {P:Program}{T:bH}{call ext:aj}{yl:fH}(hT:aZ P T)(hC:ai P call)(hX:dU P ext)(hY:fF P yl){w0:World}{ρ:Env}{N:Nat}{t:TT}{a:Act}{W W':AW}{w:World}(ht:aS ρ W.nx N t a)(hW:aJ w0 ρ W w){o:Oper}{v:AV}(hd:∀c,o.op≠ .defer c)(h:opY P T call ext yl t W o=some (v,W')){rb:Option Nat}{K:Act→World→Prop}{Q:Exit→Act→World→Prop}
 (hk:∀ρ' w',Post w0 ρ W w ρ' W' w'→v.ok W'.nx→K (a.put o.dst (cv ρ' v)) w'):o.wpIn (fw rb) 0 P a w K Q:=by
 unfold opY at h;split at h
 ·rename_i f args ats hop;split at h
  ·rename_i b hf;obtain⟨_,hy⟩:=hY b _ W _ _ h
   have hargs:oks W.nx (args.toList.map (ev t)):=(bQ _ _).2 fun v hv=>by
    obtain⟨x,_,rfl⟩:=zX.1 hv;exact ht.fQ x
   obtain⟨fl,tmps,asqz,bd,h1,h2⟩:=hy w0 ρ w hargs hW;refine⟨fun _ _=>trivial,?_⟩
   rw[xO _ _ _ hd]
   have hrun:(execOp a.eval o).run P w= .ok (.round (ρ.blk b) fl tmps asqz bd) w:=by
    obtain⟨dst,op,type,pos,after,guard⟩:=o;dsimp only at hop;subst hop
    have e1:(#[]++Array.map a.eval args)=(aH ρ (args.toList.map (ev t))).toArray:=by
     apply yE;simp[bz,ht.eval]
    simp only[execOp,resolve,ht.eval,hf,cv,Deferred.ofValue,Sem.run_bind,Sem.run_pure,Result.andThen_ok,invoke]
    have e2:(#[]++Array.map (fun x=>cv ρ (ev t x)) args)=(aH ρ (args.toList.map (ev t))).toArray:=by
     apply yE;simp[bz]
    first
     |rw[e1,h1]
     |rw[e2,h1]
     |(simp only[ht.eval] at *;rw[e2,h1])
   rw[hrun,Oper.uponIn_round];refine⟨fun h=>(by cases h),RoundIn.mono (show RoundIn (fw rb) 0 P (ρ.blk b) fl tmps asqz bd w _ from h2) ?_⟩
   rintro e w' ⟨ρ',rfl,h3,h4⟩;exact hk ρ' w' h3 h4
  ·exact (ig hT hC hX ht hW h).wpIn hd hk
 ·exact (ig hT hC hX ht hW h).wpIn hd hk
def uo:Op→Bool
 | .makeMap _ none=>true
 |_=>false
abbrev gP:=Nat→Nat→TT→AW→List Nat→Option (TT×AW×List Nat)
def eu (P:Program)(T:bH)(call ext:aj)(yl:fH)(fin:gP)(N eD:Nat)(ops:Array Oper)(z:Nat):Nat→Array Bool→Nat→TT→AW→List Nat→Option (TT×AW×List Nat)
 |0,listed,_m,t,W,ld=>match Region.ready .any ops listed with
  |[]=>cond (Nat.ble ops.size z) (some (t,W,ld)) none
  |_=>none
 |n+1,listed,m,t,W,ld=>match Region.ready .any ops listed with
  |[]=>cond (Nat.ble ops.size z) (some (t,W,ld)) none
  |rs=>cond (iN z rs) (cond (kG m z ops.size) (some (t,W,ld)) none) <| match lW P T N eD ops listed t W rs with
   |some (i,v,W',b,d)=>eu P T call ext yl fin N eD ops z n (listed.setIfInBounds i true) (dH m i) (dY d v t) W' (match b with|some b=>b::ld|none=>ld)
   |none=>match rs with
    |[i]=>match ops[i]? with
     |some o=>match cond (uo o.op) (fin (n+1) m t W ld) none with
      |some r=>some r
      |none=>if mJ N o.dst then
       if fM N t ops.toList o then match opY P T call ext yl t W o with
        |some (v,W')=>eu P T call ext yl fin N eD ops z n (listed.setIfInBounds i true) (dH m i) (dY o.dst v t) W' ld
        |none=>none
       else eu P T call ext yl fin N eD ops z n (listed.setIfInBounds i true) (dH m i) (dY o.dst (.tuple []) t) W ld
      else none
     |none=>none
    |_=>fin (n+1) m t W ld
def gZ (P:Program)(T:bH)(N eD:Nat)(ops:Array Oper)(m:Nat)(t:TT)(W:AW):Info→Option (Nat×AV×AW×Option Nat×Option Nat)
 |[]=>none
 |x::rest=>match ops[x.1]? with
  |some o=>
   cond (lh o.op) (cond (mJ N o.dst) (cond (KR m x.2.2)
    (cond (fM N t ops.toList o) (match takeA P T t W o with
      |some (v,W',some b)=>cond (Nat.blt b eD) (some (x.1,v,W',some b,o.dst)) (gZ P T N eD ops m t W rest)
      |some (v,W',none)=>some (x.1,v,W',none,o.dst)
      |none=>gZ P T N eD ops m t W rest)
    (some (x.1,.tuple [],W,none,o.dst)))
    (gZ P T N eD ops m t W rest)) (gZ P T N eD ops m t W rest)) (gZ P T N eD ops m t W rest)
  |none=>gZ P T N eD ops m t W rest
theorem Ic {P:Program}{T:bH}{N eD:Nat}{ops:Array Oper}{listed:Array Bool}{m:Nat}{t:TT}{W:AW}(h:RelB ops.size listed m):∀(l:Info),(∀x∈l,x=infoAt ops x.1)→gZ P T N eD ops m t W l=lW P T N eD ops listed t W (l.map (·.1))
 |[],_=>rfl
 |x::rest,hl=>by
  have ih:=Ic (P:=P) (T:=T) (N:=N) (eD:=eD) (t:=t) (W:=W) h rest fun y hy=>hl y (ze _ hy)
  rw[zO];unfold gZ lW;rw[ih]
  cases ho:ops[x.1]? with
  |none=>rfl
  |some o=>
   have hf:=free_eq h ho;rw[← hl x zb] at hf;simp only[hf]
   cases lh o.op<;>cases mJ N o.dst<;>cases Region.free .any ops listed x.1<;>cases fM N t ops.toList o<;>simp only[cond_true,cond_false,Bool.and_true,Bool.and_false,if_true,if_false,Bool.false_eq_true]
   cases takeA P T t W o with
   |none=>rfl
   |some r=>
    obtain⟨v,W',b⟩:=r
    cases b with
    |none=>rfl
    |some b=>
     simp only
     cases Nat.blt b eD<;>simp
def Vl (z:Nat):Info→Bool
 |[]=>false
 |x::l=>cond (Nat.beq x.1 z) true (Vl z l)
theorem Sr (z:Nat):∀l:Info,Vl z l=iN z (l.map (·.1))
 |[]=>rfl
 |x::l=>by
  unfold Vl;rw[Sr z l];rfl
def lF (P:Program)(T:bH)(call ext:aj)(yl:fH)(fin:gP)(N eD:Nat)(ops:Array Oper)(z:Nat)(info:Info):Nat→Nat→TT→AW→List Nat→Option (TT×AW×List Nat)
 |0,m,t,W,ld=>match dM info m with
  |[]=>cond (Nat.ble ops.size z) (some (t,W,ld)) none
  |_=>none
 |n+1,m,t,W,ld=>match dM info m with
  |[]=>cond (Nat.ble ops.size z) (some (t,W,ld)) none
  |rs=>cond (Vl z rs) (cond (kG m z ops.size) (some (t,W,ld)) none) <| match gZ P T N eD ops m t W rs with
   |some (i,v,W',b,d)=>lF P T call ext yl fin N eD ops z info n (dH m i) (dY d v t) W' (match b with|some b=>b::ld|none=>ld)
   |none=>match rs with
    |[x]=>match ops[x.1]? with
     |some o=>match cond (uo o.op) (fin (n+1) m t W ld) none with
      |some r=>some r
      |none=>if mJ N o.dst then
       if fM N t ops.toList o then match opY P T call ext yl t W o with
        |some (v,W')=>lF P T call ext yl fin N eD ops z info n (dH m x.1) (dY o.dst v t) W' ld
        |none=>none
       else lF P T call ext yl fin N eD ops z info n (dH m x.1) (dY o.dst (.tuple []) t) W ld
      else none
     |none=>none
    |_=>fin (n+1) m t W ld
theorem Nv {ops:Array Oper}{m:Nat}{x:Nat×List Nat×List Nat}(h:x∈dM (cu ops) m):x=infoAt ops x.1∧x.1 < ops.size:=by
 have h1:=(xQ.1 h).1;obtain⟨i,hi,rfl⟩:=zX.1 h1;exact⟨rfl,yS.1 hi⟩
theorem EG {P:Program}{T:bH}{N eD:Nat}{ops:Array Oper}{m:Nat}{t:TT}{W:AW}:∀(l:Info) {r:Nat×AV×AW×Option Nat×Option Nat},gZ P T N eD ops m t W l=some r→∃x∈l,x.1=r.1
 |[],r,h=>by cases h
 |x::rest,r,h=>by
  have step:gZ P T N eD ops m t W rest=some r→∃y∈x::rest,y.1=r.1:=fun h=>by
   obtain⟨y,hy,e⟩:=EG rest h;exact⟨y,ze _ hy,e⟩
  unfold gZ at h;simp only[Bool.cond_eq_ite] at h
  repeat' split at h
  all_goals first
   |exact step h
   |(obtain rfl:=zq h;exact⟨x,zb,rfl⟩)
theorem jD {P:Program}{T:bH}{call ext:aj}{yl:fH}{fin:gP}{N eD:Nat}{ops:Array Oper}{z:Nat}:∀(n m:Nat) {listed:Array Bool} {t:TT} {W:AW} {ld:List Nat},RelB ops.size listed m→lF P T call ext yl fin N eD ops z (cu ops) n m t W ld=eu P T call ext yl fin N eD ops z n listed m t W ld
 |0,m,listed,t,W,ld,h=>by
  unfold lF eu;rw[← jV h]
  cases dM (cu ops) m<;>rfl
 |n+1,m,listed,t,W,ld,h=>by
  unfold lF eu;rw[← jV h];have hmem:∀x∈dM (cu ops) m,x=infoAt ops x.1∧x.1 < ops.size:=fun x hx=>Nv hx
  generalize dM (cu ops) m=rs at hmem
  cases rs with
  |nil=>rfl
  |cons y l=>
   have hf:=Ic (P:=P) (T:=T) (N:=N) (eD:=eD) (t:=t) (W:=W) h (y::l) fun x hx=>(hmem x hx).1
   have hmI:=Sr z (y::l);rw[zO] at hf hmI ⊢;simp only;rw[← hf,← hmI]
   cases Vl z (y::l) with
   |true=>rfl
   |false=>
   simp only[cond_false]
   cases hr:gZ P T N eD ops m t W (y::l) with
   |some r=>
    obtain⟨i,v,W',b,d⟩:=r;obtain⟨x,hx,hxi⟩:=EG _ hr;have hxi:x.1=i:=hxi;have hlt:i < ops.size:=by rw[← hxi];exact (hmem x hx).2
    exact jD n _ (h.set hlt)
   |none=>
    cases l with
    |cons z l=>simp only[List.map_cons]
    |nil=>
     simp only[List.map_nil];have hlt:=(hmem y zb).2
     cases ops[y.1]? with
     |none=>rfl
     |some o=>
      simp only
      cases (cond (uo o.op) (fin (n+1) m t W ld) none) with
      |some r=>rfl
      |none=>
      simp only;split
      ·split
       ·cases opY P T call ext yl t W o with
        |none=>rfl
        |some r=>
         obtain⟨v,W'⟩:=r;exact jD n _ (h.set hlt)
       ·exact jD n _ (h.set hlt)
      ·rfl
def JJ (ops:Array Oper):Bool:=ops.toList.all fun o=>match o.op with | .defer _=>false|_=>true
def bW (dw:Env)(ws:World)(gl:List (Nat×List Value))(dE:List Nat)(w':World):Prop:=(∀c,c∈dE→w'.heap[dw.blk c]? =ws.heap[dw.blk c]?)∧K9 gl w'
theorem Post.stand {w0:World}{dw ρ:Env}{Ws W:AW}{ws w:World}{dE:List Nat}(hws:aJ w0 dw Ws ws)(hm0:Ws.az=[])(h:Post w0 dw Ws ws ρ W w)(hld:∀c,c∈dE→c < Ws.nx∧(au c Ws.bl).isSome=true)(hno:∀c,c∈dE→c ∉ W.az):bW dw ws Ws.gl dE w:=⟨fun c hc=>by
 obtain⟨h1,h2⟩:=hld c hc;obtain⟨k,hk⟩:=z8.1 h2;refine h.gr.block _ (hws.ok c k hk).2.2.2 fun ⟨b,q1,q2,q3⟩=>?_
 rcases h.old b q2 q1 with q|q
 ·rw[hm0] at q;cases q
 ·obtain⟨kb,hkb⟩:=z8.1 q;exact hno c hc (hws.inj b c kb k hkb hk q3 ▸ q1),by rw[← h.gl];exact h.rep.QC⟩
section
variable {P:Program} {T:bH} {call ext:aj} {yl:fH} {N:Nat}
theorem rC {t:TT}{W W':AW}{o:Oper}{v:AV}{b:Option Nat}(h:takeA P T t W o=some (v,W',b)):W'.az=W.az:=by
 unfold takeA at h;split at h
 ·obtain⟨_,h2⟩:=zm (zq h);obtain⟨rfl,_⟩:=zm h2;rfl
 split at h
 ·obtain⟨_,h2⟩:=zm (zq h);obtain⟨rfl,_⟩:=zm h2;rfl
 split at h
 ·rename_i r hr;obtain⟨_,h2⟩:=zm (zq h);obtain⟨rfl,_⟩:=zm h2;exact A7 (v:=r.1) (by rw[hr])
 split at h
 ·split at h
  ·obtain⟨_,_,h2⟩:=zi.1 h;obtain⟨_,h3⟩:=zm h2;obtain⟨rfl,_⟩:=zm h3;rfl
  ·obtain⟨_,_,h2⟩:=zi.1 h;obtain⟨_,h3⟩:=zm h2;obtain⟨rfl,_⟩:=zm h3;rfl
  ·cases h
 ·obtain⟨_,_,h2⟩:=zi.1 h;obtain⟨_,h3⟩:=zm h2;obtain⟨rfl,_⟩:=zm h3;rfl
theorem Gs (hT:aZ P T){w0:World}{dw ρ:Env}{Ws W W':AW}{ws w:World}{dE:List Nat}{t:TT}{a:Act}{o:Oper}{v:AV}{b:Option Nat}
 (hp:Post w0 dw Ws ws ρ W w) (hst:bW dw ws Ws.gl dE w)
 (ht:aS ρ W.nx N t a) (h:takeA P T t W o=some (v,W',b)) (hb:∀c,b=some c→c < Ws.nx∧c∈dE):
 ∃ρ',(∀w2,(Qu o.op=true→bW dw ws Ws.gl dE w2)→(execOp a.eval o).run P w2= .ok (.value (cv ρ' v)) w2)∧Post w0 ρ W w ρ' W' w∧v.ok W'.nx:=by
 unfold takeA at h;split at h
 ·rename_i u hu;obtain⟨rfl,h2⟩:=zm (zq h);obtain⟨rfl,rfl⟩:=zm h2;exact⟨ρ,fun w2 _=>(mh hT ht hu w2).1,Post.refl hp.rep,(mh hT ht hu w).2⟩
 split at h
 ·rename_i u hu;obtain⟨rfl,h2⟩:=zm (zq h);obtain⟨rfl,rfl⟩:=zm h2;exact⟨ρ,fun w2 _=>(Di hT ht hu w2).1,Post.refl hp.rep,(Di hT ht hu w).2⟩
 split at h
 ·rename_i r hu;obtain⟨rfl,h2⟩:=zm (zq h);obtain⟨rfl,rfl⟩:=zm h2;obtain⟨ρ',h1,h2,h3⟩:=ER hT ht hp.rep hu;exact⟨ρ',fun w2 _=>h1 w2,h2,h3⟩
 split at h
 ·rename_i e x hop;split at h
  ·rename_i c o' hx;obtain⟨u,hu,h2⟩:=zi.1 h;obtain⟨rfl,h3⟩:=zm h2;obtain⟨rfl,rfl⟩:=zm h3;obtain⟨hc1,hc2⟩:=hb c rfl
   have hr:∀w2,bW dw ws Ws.gl dE w2→∀b o,ev t x= .ptr b o→∀k,au b W.bl=some k→k.ok W.nx∧k.rep ρ w2 b:=fun w2 hs b o hb k hk=>by
    rw[hx] at hb;injection hb with hb1 hb2
    subst hb1;refine⟨(hp.rep.ok c k hk).2.1,(hp.rep.rep c k hk).heap ?_⟩;rw[hp.ext.blk c hc1];exact (hs.1 c hc2).trans (hst.1 c hc2).symm
   refine⟨ρ,fun w2 hs=>?_,Post.refl hp.rep,(qC hT (hr w hst) hu).2⟩
   have hs2:=hs (by rw[hop];rfl)
   clear hs;obtain⟨dst,op,type,pos,after,guard⟩:=o;dsimp only at hop;subst hop;simp only[execOp,ht.eval,Sem.run_bind,(qC hT (hr w2 hs2) hu).1,Result.andThen_ok,Sem.run_pure]
  ·obtain⟨u,hu,h2⟩:=zi.1 h;obtain⟨rfl,h3⟩:=zm h2;obtain⟨rfl,rfl⟩:=zm h3;refine⟨ρ,fun w2 hs=>?_,Post.refl hp.rep,(Aw (ρ:=ρ) hT hp.rep.QC hu).2⟩
   have hs:=hs (by rw[hop];rfl)
   have hgl:K9 W.gl w2:=by rw[hp.gl];exact hs.2
   obtain⟨dst,op,type,pos,after,guard⟩:=o;dsimp only at hop;subst hop;simp only[execOp,ht.eval,Sem.run_bind,(Aw (ρ:=ρ) (n:=W.nx) hT hgl hu).1,Result.andThen_ok,Sem.run_pure]
  ·cases h
 ·obtain⟨u,hu,h2⟩:=zi.1 h;obtain⟨rfl,h3⟩:=zm h2;obtain⟨rfl,rfl⟩:=zm h3;exact⟨ρ,fun w2 _=>(AQ hu ht w2).1,Post.refl hp.rep,(AQ hu ht w).2⟩
theorem lD {eD:Nat}{ops:Array Oper}{listed:Array Bool}{t:TT}{W:AW}:∀(rs:List Nat) {i:Nat} {v:AV} {W':AW} {b d:Option Nat},lW P T N eD ops listed t W rs=some (i,v,W',b,d)→
 i∈rs∧∃o,ops[i]? =some o∧lh o.op=true∧o.dst=d∧mJ N o.dst=true∧Region.free .any ops listed i=true∧
  ((fM N t ops.toList o=true∧takeA P T t W o=some (v,W',b)∧∀c,b=some c→c < eD)∨(fM N t ops.toList o=false∧v= .tuple []∧W'=W∧b=none))
 |[],i,v,W',b,d,h=>by cases h
 |j::rest,i,v,W',b,d,h=>by
  have step:lW P T N eD ops listed t W rest=some (i,v,W',b,d)→_:=fun h=>by
   obtain⟨h1,h2⟩:=lD rest h;exact (⟨ze _ h1,h2⟩:i∈j::rest∧_)
  simp only[lW] at h;split at h
  case h_2=>exact step h
  case h_1 o ho=>
  split at h
  case isFalse=>exact step h
  case isTrue hc=>
  simp only[Bool.and_eq_true] at hc;split at h
  ·rename_i hw;split at h
   ·rename_i v1 W1 c hv;split at h
    ·rename_i hlt;simp only[Option.some.injEq,Prod.mk.injEq] at h;obtain⟨rfl,rfl,rfl,rfl,rfl⟩:=h;exact⟨zb,o,ho,hc.1.1,rfl,hc.1.2,hc.2,.inl ⟨hw,hv,fun c' hc'=>by obtain rfl:=zq hc';exact aK hlt⟩⟩
    ·exact step h
   ·rename_i v1 W1 hv;simp only[Option.some.injEq,Prod.mk.injEq] at h;obtain⟨rfl,rfl,rfl,rfl,rfl⟩:=h;exact⟨zb,o,ho,hc.1.1,rfl,hc.1.2,hc.2,.inl ⟨hw,hv,fun c' hc'=>by cases hc'⟩⟩
   ·exact step h
  ·rename_i hw;simp only[Option.some.injEq,Prod.mk.injEq] at h;obtain⟨rfl,rfl,rfl,rfl,rfl⟩:=h;exact⟨zb,o,ho,hc.1.1,rfl,hc.1.2,hc.2,.inr ⟨by simpa using hw,rfl,rfl,rfl⟩⟩
def cB (fin:gP):Prop:=∀n m t W ld tf Wf dE,fin n m t W ld=some (tf,Wf,dE)→(∀b,b∈W.az→b∈Wf.az)∧∀c,c∈ld→c∈dE
theorem dS (hC:ai P call)(hX:dU P ext)(hY:fF P yl){fin:gP}(hF:cB fin){eD z:Nat}{ops:Array Oper}{tf:TT}{Wf:AW}{dE:List Nat}:∀(n:Nat) {listed:Array Bool} {m:Nat} {t:TT} {W:AW} {ld:List Nat},
 eu P T call ext yl fin N eD ops z n listed m t W ld=some (tf,Wf,dE)→(∀b,b∈W.az→b∈Wf.az)∧∀c,c∈ld→c∈dE
 |0,listed,m,t,W,ld,h=>by
  simp only[eu] at h;split at h
  ·cases hz:Nat.ble ops.size z with
   |false=>rw[hz] at h;cases h
   |true=>
   rw[hz] at h;simp only[cond_true,Option.some.injEq,Prod.mk.injEq] at h;obtain⟨rfl,rfl,rfl⟩:=h;exact⟨fun _ h=>h,fun _ h=>h⟩
  ·cases h
 |n+1,listed,m,t,W,ld,h=>by
  simp only[eu] at h;split at h
  ·cases hz:Nat.ble ops.size z with
   |false=>rw[hz] at h;cases h
   |true=>
   rw[hz] at h;simp only[cond_true,Option.some.injEq,Prod.mk.injEq] at h;obtain⟨rfl,rfl,rfl⟩:=h;exact⟨fun _ h=>h,fun _ h=>h⟩
  generalize iN z _=WR at h
  cases WR with
  |true=>
   cases rU:kG m z ops.size with
   |false=>rw[rU] at h;cases h
   |true=>
   rw[rU] at h;simp only[cond_true,Option.some.injEq,Prod.mk.injEq] at h;obtain⟨rfl,rfl,rfl⟩:=h;exact⟨fun _ h=>h,fun _ h=>h⟩
  |false=>
  simp only[cond_false] at h;split at h
  ·rename_i i v W' b d hf;obtain⟨_,o,_,_,_,_,_,hor⟩:=lD _ hf;obtain⟨h1,h2⟩:=dS hC hX hY hF n h
   have hm:W'.az=W.az:=by
    rcases hor with⟨_,ht,_⟩|⟨_,_,rfl,_⟩
    ·exact rC ht
    ·rfl
   refine⟨fun b hb=>h1 b (by rw[hm];exact hb),fun c hc=>h2 c ?_⟩
   cases b with
   |none=>exact hc
   |some b=>exact ze _ hc
  split at h
  ·split at h
   ·split at h
    ·rename_i r hr;obtain rfl:=zq h;generalize uo _=q at hr
     cases q with
     |false=>cases hr
     |true=>exact hF _ _ _ _ _ _ _ _ hr
    split at h
    ·split at h
     ·split at h
      ·rename_i hv;obtain⟨h1,h2⟩:=dS hC hX hY hF n h;exact⟨fun b hb=>h1 b (MQ hC hX hY hv b hb),h2⟩
      ·cases h
     ·exact dS hC hX hY hF n h
    ·cases h
   ·cases h
  ·exact hF _ _ _ _ _ _ _ _ h
def nZ (P:Program)(N:Nat)(ops:Array Oper)(z:Nat)(w0:World)(dw:Env)(Ws:AW)(ws:World)(Q:Act→World→Prop)(tf:TT)(Wf:AW)(dE:List Nat)(rb:Option Nat)(fin:gP):Prop:=
 ∀n m listed t W ld ρ a w,RelB ops.size listed m→tb m z=false→fin n m t W ld=some (tf,Wf,dE)→aS ρ W.nx N t a→Post w0 dw Ws ws ρ W w→bD P .any ops (qa Q) (bW dw ws Ws.gl dE) z rb n listed a w
theorem kg {ops:Array Oper}{listed:Array Bool}{i:Nat}(h:i∈Region.ready .any ops listed):i < ops.size:=by
 unfold Region.ready at h;exact yS.1 (xQ.1 h).1
theorem dB (hT:aZ P T)(hC:ai P call)(hX:dU P ext)(hY:fF P yl){fin:gP}(hF:cB fin){w0:World}{dw:Env}{Ws:AW}{ws:World}(hws:aJ w0 dw Ws ws)(hm0:Ws.az=[]){ops:Array Oper}(hsel:Region.noSelect ops=true)(hnd:∀(j:Nat) (o:Oper),ops[j]? =some o→∀c,o.op≠ .defer c){rb:Option Nat}{Q:Act→World→Prop}{tf:TT}{Wf:AW}{dE:List Nat}
 (hld:∀c,c∈dE→c < Ws.nx∧(au c Ws.bl).isSome=true) (hno:∀c,c∈dE→c ∉ Wf.az) {z:Nat} (hz:ZOk ops z) (hfin:nZ P N ops z w0 dw Ws ws Q tf Wf dE rb fin)
 (hQ:ops.size≤z→∀ρ' a' w',Post w0 dw Ws ws ρ' Wf w'→aS ρ' Wf.nx N tf a'→Q a' w')
 (hZ:∀n listed m ρ' a' w',RelB ops.size listed m→kG m z ops.size=true→z∈Region.ready .any ops listed→Post w0 dw Ws ws ρ' Wf w'→aS ρ' Wf.nx N tf a'→bD P .any ops (qa Q) (bW dw ws Ws.gl dE) z rb (n+1) listed a' w'):
 ∀(n:Nat) {listed:Array Bool} {m:Nat} {t:TT} {W:AW} {ld:List Nat} {ρ:Env} {a:Act} {w:World},RelB ops.size listed m→tb m z=false→eu P T call ext yl fin N Ws.nx ops z n listed m t W ld=some (tf,Wf,dE)→aS ρ W.nx N t a→Post w0 dw Ws ws ρ W w→
  bD P .any ops (qa Q) (bW dw ws Ws.gl dE) z rb n listed a w
 |0,listed,m,t,W,ld,ρ,a,w,hrl,hzu,h,ht,hp=>by
  simp only[eu] at h;split at h
  ·rename_i hr
   cases hzb:Nat.ble ops.size z with
   |false=>rw[hzb] at h;cases h
   |true=>
   rw[hzb] at h;simp only[cond_true,Option.some.injEq,Prod.mk.injEq] at h;obtain⟨rfl,rfl,rfl⟩:=h;exact⟨hr,hQ (zk hzb) ρ a w hp ht⟩
  ·cases h
 |n+1,listed,m,t,W,ld,ρ,a,w,hrl,hzu,h,ht,hp=>by
  have hmono:=dS hC hX hY hF (n+1) h;have hst:bW dw ws Ws.gl dE w:=hp.stand hws hm0 hld fun c hc hm=>hno c hc (hmono.1 c hm)
  simp only[eu] at h;split at h
  ·rename_i hr
   cases hzb:Nat.ble ops.size z with
   |false=>rw[hzb] at h;cases h
   |true=>
   rw[hzb] at h;simp only[cond_true,Option.some.injEq,Prod.mk.injEq] at h;obtain⟨rfl,rfl,rfl⟩:=h;exact oI (Q:=qa Q) hr (hQ (zk hzb) ρ a w hp ht) _
  cases WR:iN z (Region.ready .any ops listed) with
  |true=>
   rw[WR] at h
   cases rU:kG m z ops.size with
   |false=>rw[rU] at h;cases h
   |true=>
   rw[rU] at h;simp only[cond_true,Option.some.injEq,Prod.mk.injEq] at h;obtain⟨rfl,rfl,rfl⟩:=h;exact hZ n listed m ρ a w hrl rU (jy WR) hp ht
  |false=>
  have hnz:∀i,i∈Region.ready .any ops listed→i≠z:=fun i hi e=>nH WR (e ▸ hi)
  rw[WR] at h;simp only[cond_false] at h;split at h
  ·rename_i i v W' b d hf;obtain⟨hi,o,ho,hpu,rfl,hd,hfree,hor⟩:=lD _ hf;have hiz:=hnz i hi;have hzl:listed.getD z false=false:=by rw[hrl.aac];exact hzu
   have hm2:=dS hC hX hY hF n h;have hr:(Region.ready .any ops listed).contains i=true:=by simpa using hi
   have hlt:=kg hi;rcases hor with⟨hw,htk,hb⟩|⟨hw,rfl,rfl,rfl⟩
   ·obtain⟨ρ',h1,h2,h3⟩:=Gs hT hp hst ht htk fun c hc=>⟨hb c hc,hm2.2 c (by subst hc;exact zb)⟩
    have hy:YieldsIf P ops (fun _=>True) o (cv ρ' v) a∨((∀oz,ops[z]? =some oz→∃e∈oz.after,Region.binds .any e=true∧e.on=i)∧YieldsIf P ops (bW dw ws Ws.gl dE) o (cv ρ' v) a):=by
     cases Ej:Qu o.op with
     |false=>exact .inl (.inl ⟨by rw[fK ht];exact hw,fun w2 _=>h1 w2 fun h=>by rw[Ej] at h;cases h⟩)
     |true=>exact .inr ⟨fun oz hoz=>hz.ld oz hoz i o ho Ej hiz,.inl ⟨by rw[fK ht];exact hw,fun w2 hs=>h1 w2 fun _=>hs⟩⟩
    refine kX ho hsel hnd hfree hr (fun _ _ _ h=>h) hiz hst hzl hy ?_
    exact dB hT hC hX hY hF hws hm0 hsel hnd hld hno hz hfin hQ hZ n (hrl.set hlt) (by rw[fO,hzu];simpa using hiz) h ((ht.mono h2.ext h2.nx).put hd h3) (hp.trans h2)
   ·refine kX ho hsel hnd hfree hr (fun _ _ _ h=>h) hiz hst hzl (.inl (.inr ⟨by rw[fK ht];exact hw,rfl⟩)) ?_
    exact dB hT hC hX hY hF hws hm0 hsel hnd hld hno hz hfin hQ hZ n (hrl.set hlt) (by rw[fO,hzu];simpa using hiz) h (ht.put (v:=.tuple []) hd trivial) hp
  split at h
  ·rename_i i hr;have hlt:i < ops.size:=kg (by rw[hr];exact zR.2 rfl)
   have hiz:i≠z:=hnz i (by rw[hr];exact zR.2 rfl)
   split at h
   ·rename_i o ho;split at h
    ·rename_i r hr;obtain rfl:=zq h
     cases hq:uo o.op with
     |false=>rw[hq] at hr;cases hr
     |true=>
      rw[hq] at hr;exact hfin _ _ _ _ _ _ _ _ _ hrl hzu hr ht hp
    split at h
    ·rename_i hd;refine dG hr zw fun j hj=>?_
     obtain rfl:j=i:=by simpa using hj
     unfold wpOpIn;simp only[ho];rw[fK ht];split at h
     ·rename_i hw;rw[zW hw];split at h
      ·rename_i v W' hv;have hm2:=dS hC hX hY hF n h;refine YH hT hC hX hY ht hp.rep (hnd _ _ ho) hv fun ρ' w' hp' Ca=>⟨fun _=>?_,?_⟩
       ·exact (hp.trans hp').stand hws hm0 hld fun c hc hm=>hno c hc (hm2.1 c hm)
       ·exact dB hT hC hX hY hF hws hm0 hsel hnd hld hno hz hfin hQ hZ n (hrl.set hlt) (by rw[fO,hzu];simpa using hiz) h ((ht.mono hp'.ext hp'.nx).put hd Ca) (hp.trans hp')
      ·cases h
     ·rename_i hw;rw[za hw];exact⟨fun _ _=>trivial,fun _=>hst,dB hT hC hX hY hF hws hm0 hsel hnd hld hno hz hfin hQ hZ n (hrl.set hlt) (by rw[fO,hzu];simpa using hiz) h (ht.put (v:=.tuple []) hd trivial) hp⟩
    ·cases h
   ·cases h
  ·exact hfin _ _ _ _ _ _ _ _ _ hrl hzu h ht hp
theorem Post.iW {w0:World}{ρ ρ':Env}{W W':AW}{w w':World}(h:Post w0 ρ ⟨W.nx,W.bl,[],W.gl⟩ w ρ' W' w'):Post w0 ρ W w ρ' ⟨W'.nx,W'.bl,jm W'.az W.az,W'.gl⟩ w':=by
 have hm:∀i,fV ρ ⟨W.nx,W.bl,[],W.gl⟩ W' i→fV ρ W ⟨W'.nx,W'.bl,jm W'.az W.az,W'.gl⟩ i:=fun i ⟨b,h1,h2,h3⟩=>⟨b,ed.2 (.inl h1),h2,h3⟩
 refine⟨h.ext,h.nx,fun b hb=>ed.2 (.inr hb),h.gr.mono fun i _ hi=>hm i hi,fun b h1 h2 h3=>hm _ (h.fresh b h1 h2 h3),⟨h.rep.below,h.rep.ok,h.rep.inj,h.rep.rep,h.rep.ng,h.rep.gl⟩,h.dom,fun b hb hmm=>?_,h.gl⟩
 rcases ed.1 hmm with h1|h1
 ·rcases h.old b hb h1 with h2|h2
  ·cases h2
  ·exact .inr h2
 ·exact .inl h1
theorem ug {ops:Array Oper}(hd:JJ ops=true):∀(j:Nat) (o:Oper),ops[j]? =some o→∀c,o.op≠ .defer c:=fun j o ho c e=>by
 have:=zY.1 hd o (by simpa using Array.mem_of_getElem? ho)
 rw[e] at this
 cases this
end
end Ex
namespace Ex
open Go.RowKit Go.MapKept
mutual
def mM:AV→Bool
 | .ptr _ _=>false
 | .slice _ _ _ _ _=>false
 | .FI _=>false
 | .map _=>false
 | .Bi _=>false
 | .fn _ l c=>gY l && gY c
 | .iface _ v=>mM v
 | .agg l=>gY l
 | .tuple l=>gY l
 | .uK _=>false
 | .sym _ _=>false
 |_=>true
def gY:List AV→Bool
 |[]=>true
 |v::l=>mM v && gY l
end
mutual
theorem mK (n:Nat):∀v:AV,mM v=true→v.ok n
 | .raw _,_ | .bool _,_ | .int _ _,_ | .str _,_ | .bU,_ | .jK _ _,_ | .bT,_=>trivial
 | .ptr _ _,h | .slice _ _ _ _ _,h | .FI _,h | .map _,h | .Bi _,h | .uK _,h | .sym _ _,h=>by simp[mM] at h
 | .fn _ l c,h=>by
   simp only[mM,Bool.and_eq_true] at h;exact⟨iT n l h.1,iT n c h.2⟩
 | .iface _ v,h=>mK n v h
 | .agg l,h=>iT n l h
 | .tuple l,h=>iT n l h
theorem iT (n:Nat):∀l:List AV,gY l=true→oks n l
 |[],_=>trivial
 |v::l,h=>by
  simp only[gY,Bool.and_eq_true] at h;exact⟨mK n v h.1,iT n l h.2⟩
end
def Only (p:Nat→Prop)(v:AV):Prop:=∀b,b∈gL v→p b
def jO (p:Nat→Prop)(l:List AV):Prop:=∀b,b∈Eg l→p b
theorem jW (p:Nat→Prop):jO p []:=fun b hb=>by simp[Eg] at hb
theorem je {p:Nat→Prop}{v:AV}{l:List AV}:jO p (v::l)↔Only p v∧jO p l:=by
 unfold jO Only;simp only[Eg,List.mem_append];exact⟨fun h=>⟨fun b hb=>h b (.inl hb),fun b hb=>h b (.inr hb)⟩,fun h b hb=>hb.elim (h.1 b) (h.2 b)⟩
theorem iI {p:Nat→Prop}:∀{l:List AV},jO p l↔∀v∈l,Only p v
 |[]=>⟨fun _ v hv=>by (cases hv),fun _=>jW p⟩
 |v::l=>by
  rw[je,iI (l:=l)];simp
theorem tX {p:Nat→Prop}{f:Fn}{l c:List AV}:Only p (.fn f l c)↔jO p l∧jO p c:=by
 unfold jO Only;simp only[gL,List.mem_append];exact⟨fun h=>⟨fun b hb=>h b (.inl hb),fun b hb=>h b (.inr hb)⟩,fun h b hb=>hb.elim (h.1 b) (h.2 b)⟩
theorem Only.mono {p q:Nat→Prop}{v:AV}(h:Only p v)(hq:∀b,p b→q b):Only q v:=fun b hb=>hq b (h b hb)
mutual
theorem JE {n:Nat}:∀v:AV,v.ok n→Only (· < n) v
 | .ptr b _,h | .slice b _ _ _ _,h | .map b,h | .Bi b,h=>fun c hc=>by
   have:c=b:=by simpa [gL] using hc
   subst this;exact h
 | .raw _,_ | .sym _ _,_ | .bool _,_ | .int _ _,_ | .str _,_ | .bU,_ | .jK _ _,_ | .bT,_ | .FI _,_=>fun c hc=>by simp[gL] at hc
 | .fn _ l c,h=>tX.2 ⟨tV l h.1,tV c h.2⟩
 | .iface _ v,h=>fun c hc=>JE v h c (by simpa [gL] using hc)
 | .agg l,h | .tuple l,h | .uK l,h=>fun c hc=>tV l h c (by simpa [gL] using hc)
theorem tV {n:Nat}:∀l:List AV,oks n l→jO (· < n) l
 |[],_=>jW _
 |v::l,h=>je.2 ⟨JE v h.1,tV l h.2⟩
end
structure Same (p:Nat→Prop)(ρ ρ':Env):Prop where
 blk:∀b,p b→ρ'.blk b=ρ.blk b
 cap:∀b,p b→ρ'.cap b=ρ.cap b
 es:ρ'.es=ρ.es
theorem Same.mono {p q:Nat→Prop}{ρ ρ':Env}(h:Same p ρ ρ')(hq:∀b,q b→p b):Same q ρ ρ':=⟨fun b hb=>h.blk b (hq b hb),fun b hb=>h.cap b (hq b hb),h.es⟩
theorem Same.ext {n:Nat}{ρ ρ':Env}(h:Same (· < n) ρ ρ'):Ext n ρ ρ':=⟨h.blk,h.cap,fun _ _=>by rw[h.es]⟩
mutual
theorem uM {p:Nat→Prop}{ρ ρ':Env}(h:Same p ρ ρ'):∀v:AV,Only p v→cv ρ' v=cv ρ v
 | .raw _,_ | .sym _ _,_ | .bool _,_ | .int _ _,_ | .str _,_ | .bU,_ | .jK _ _,_ | .bT,_ | .uK _,_=>by simp only[cv]
 | .ptr b o,hv=>by rw[cv,cv,h.blk b (hv b (by simp[gL]))]
 | .slice b o k m c,hv=>by
   have hb:=h.blk b (hv b (by simp[gL]))
   have hc:=h.cap b (hv b (by simp[gL]))
   cases c<;>simp only[cv,hb,hc]
 | .FI j,_=>by rw[cv,cv,h.es]
 | .map b,hv=>by rw[cv,cv,h.blk b (hv b (by simp[gL]))]
 | .Bi b,hv=>by rw[cv,cv,h.blk b (hv b (by simp[gL]))]
 | .fn f l c,hv=>by rw[cv,cv,mU h l (tX.1 hv).1,mU h c (tX.1 hv).2]
 | .iface t v,hv=>by rw[cv,cv,uM h v fun b hb=>hv b (by simpa [gL] using hb)]
 | .agg l,hv=>by rw[cv,cv,mU h l fun b hb=>hv b (by simpa [gL] using hb)]
 | .tuple l,hv=>by rw[cv,cv,mU h l fun b hb=>hv b (by simpa [gL] using hb)]
theorem mU {p:Nat→Prop}{ρ ρ':Env}(h:Same p ρ ρ'):∀l:List AV,jO p l→aH ρ' l=aH ρ l
 |[],_=>rfl
 |v::l,hv=>by rw[aH,aH,uM h v (je.1 hv).1,mU h l (je.1 hv).2]
end
mutual
def shA (k:Nat):AV→Option AV
 | .raw v=>some (.raw v)
 | .bool b=>some (.bool b)
 | .int i n=>some (.int i n)
 | .str l=>some (.str l)
 | .bU=>some .bU
 | .jK g o=>some (.jK g o)
 | .bT=>some .bT
 | .ptr b o=>some (.ptr (k+b) o)
 | .fn f l c=>match shL k l,shL k c with
   |some l',some c'=>some (.fn f l' c')
   |_,_=>none
 | .agg l=>match shL k l with
   |some l'=>some (.agg l')
   |none=>none
 |_=>none
def shL (k:Nat):List AV→Option (List AV)
 |[]=>some []
 |v::l=>match shA k v,shL k l with
  |some v',some l'=>some (v'::l')
  |_,_=>none
end
def IJ (lo hi b:Nat):Prop:=lo≤b∧b < hi
mutual
theorem Mc {k c:Nat}:∀(v:AV) {v':AV},shA k v=some v'→v.ok c→v'.ok (k+c)∧Only (IJ k (k+c)) v'∧∀ρ dC:Env,(∀b,b < c→dC.blk (k+b)=ρ.blk b)→cv dC v'=cv ρ v
 | .raw _,_,h,_ | .bool _,_,h,_ | .int _ _,_,h,_ | .str _,_,h,_ | .bU,_,h,_ | .jK _ _,_,h,_ | .bT,_,h,_=>by
   simp only[shA,Option.some.injEq] at h;subst h;exact⟨trivial,fun b hb=>by simp[gL] at hb,fun ρ dC _=>by simp only[cv]⟩
 | .ptr b o,_,h,hv=>by
   simp only[shA,Option.some.injEq] at h;subst h;have hv:b < c:=hv
   exact⟨by show k+b < k+c;omega,fun d hd=>by
    have:d=k+b:=by simpa [gL] using hd
    subst this;exact⟨zy,zy⟩,fun ρ dC hρ=>by rw[cv,cv,hρ b hv]⟩
 | .fn f l m,_,h,hv=>by
   simp only[shA] at h;split at h
   ·rename_i l' m' hl hm;obtain rfl:=zq h;obtain⟨h1,h2,h3⟩:=ma l hl hv.1;obtain⟨q1,q2,q3⟩:=ma m hm hv.2;exact⟨⟨h1,q1⟩,tX.2 ⟨h2,q2⟩,fun ρ dC hρ=>by rw[cv,cv,h3 ρ dC hρ,q3 ρ dC hρ]⟩
   ·cases h
 | .agg l,_,h,hv=>by
   simp only[shA] at h;split at h
   ·rename_i l' hl;obtain rfl:=zq h;obtain⟨h1,h2,h3⟩:=ma l hl hv;exact⟨h1,fun b hb=>h2 b (by simpa [gL] using hb),fun ρ dC hρ=>by rw[cv,cv,h3 ρ dC hρ]⟩
   ·cases h
 | .slice _ _ _ _ _,_,h,_ | .FI _,_,h,_ | .map _,_,h,_ | .Bi _,_,h,_ | .iface _ _,_,h,_ | .tuple _,_,h,_ | .uK _,_,h,_ | .sym _ _,_,h,_=>by simp[shA] at h
theorem ma {k c:Nat}:∀(l:List AV) {l':List AV},shL k l=some l'→oks c l→oks (k+c) l'∧jO (IJ k (k+c)) l'∧∀ρ dC:Env,(∀b,b < c→dC.blk (k+b)=ρ.blk b)→aH dC l'=aH ρ l
 |[],_,h,_=>by
  simp only[shL,Option.some.injEq] at h;subst h;exact⟨trivial,jW _,fun _ _ _=>rfl⟩
 |v::l,_,h,hv=>by
  simp only[shL] at h;split at h
  ·rename_i v' l' hv' hl;obtain rfl:=zq h;obtain⟨h1,h2,h3⟩:=Mc v hv' hv.1;obtain⟨q1,q2,q3⟩:=ma l hl hv.2;exact⟨⟨h1,q1⟩,je.2 ⟨h2,q2⟩,fun ρ dC hρ=>by rw[aH,aH,h3 ρ dC hρ,q3 ρ dC hρ]⟩
  ·cases h
end
def shB (k:Nat):List (Nat×aF)→Option (List (Nat×aF))
 |[]=>some []
 |(b,.cells vs e none)::l=>match shL k vs,shB k l with
  |some vs',some l'=>some ((k+b,.cells vs' e none)::l')
  |_,_=>none
 |_=>none
theorem Ma {k:Nat}:∀(l:List (Nat×aF)) {l':List (Nat×aF)},shB k l=some l'→l'.map (·.1)=(l.map (·.1)).map (k+·)∧∀x∈l',∃b vs e vs',(b,aF.cells vs e none)∈l∧x=(k+b,aF.cells vs' e none)∧shL k vs=some vs'
 |[],_,h=>by
  simp only[shB,Option.some.injEq] at h;subst h;exact⟨rfl,fun x hx=>(by cases hx)⟩
 |x::l,_,h=>by
  unfold shB at h;split at h
  ·rename_i e;cases e
  ·rename_i b vs e l0 e0;obtain⟨rfl,rfl⟩:=yP e0;split at h
   ·rename_i vs' l' hvs hl;obtain rfl:=zq h;obtain⟨h1,h2⟩:=Ma _ hl;refine⟨by simp only[List.map_cons,h1],fun y hy=>?_⟩
    rcases zQ.1 hy with rfl|hy
    ·exact⟨b,vs,e,vs',zb,rfl,hvs⟩
    ·obtain⟨b',vs2,e',apt,q1,q2⟩:=h2 y hy;exact⟨b',vs2,e',apt,ze _ q1,q2⟩
   ·cases h
  ·cases h
structure ME where
 i:Nat
 d:Option Nat
 v:AV
 en:Option (AV×AV)
 bl:List (Nat×aF)
 lo:Nat
 hi:Nat
def agr:Op→Bool
 | .makeMap _ none=>true
 | .call c=>match c.callee with
   | .value _=>true
   |_=>false
 | .build .. =>true
 | .insert .. =>true
 |_=>false
abbrev Mid:=AV×Option (AV×AV)×List (Nat×aF)×Nat
def Cq (call:aj)(gl:List (Nat×List Value))(nx g:Nat)(asqz:List AV):Option Mid:=
 cond (gY asqz) (match call g asqz ⟨0,[],[],gl⟩ with
  |some (v,W')=>match shA nx v,shB nx W'.bl with
   |some v',some bl'=>some (v',none,bl',nx+W'.nx)
   |_,_=>none
  |none=>none) none
def rO (T:bH)(call:aj)(t:TT)(W:AW)(nx:Nat):Op→Option Mid
 | .makeMap _ none=>some (.map nx,none,[],nx+1)
 | .call c=>match c.callee with
   | .value f=>match ev t f with
     | .fn (.func g) l m=>Cq call W.gl nx g (l++c.args.toList.map (ev t)++m)
     |_=>none
   |_=>none
 | .build s parts=>match T.get s with
   |some i=>match i.kd with
    | .struct fs=>match kK (fun f=>(fs[f]?).map fun y=>(y.1,y.2.2)) (i.zero.map gX) (parts.toList.map fun p=>(p.1,ev t p.2)) with
      |some l=>some (.agg l,none,[],nx)
      |none=>none
    |_=>none
   |none=>none
 | .insert s _ k x=>match T.get s with
   |some i=>match i.kd with
    | .map kt _=>match T.get kt with
      |some ik=>cond (keyOf ik.kd (ev t k)) (some (.tuple [],some (ev t k,ev t x),[],nx)) none
      |none=>none
    |_=>none
   |none=>none
 |_=>none
inductive Cf (T:bH)(call:aj)(W:AW)(ops:Array Oper)(N m:Nat):Nat→TT→List ME→TT→Nat→Prop where
 |nil (n:Nat) (t:TT):Cf T call W ops N m n t [] t n
 |cons {n nf n':Nat} {t tf:TT} {i:Nat} {o:Oper} {v:AV} {en:Option (AV×AV)} {bl:List (Nat×aF)} {l:List ME} (ho:ops[i]? =some o) (hg:o.guard=none) (hd:mJ N o.dst=true) (hm:tb m i=false)
  (h:rO T call t W n o.op=some (v,en,bl,n')) (hl:Cf T call W ops N m n' (dY o.dst v t) l tf nf):Cf T call W ops N m n t (⟨i,o.dst,v,en,bl,n,n'⟩::l) tf nf
def DW (T:bH)(call:aj)(W:AW)(ops:Array Oper)(N m:Nat):Info→Nat→TT→Option (List ME×TT×Nat)
 |[],n,t=>some ([],t,n)
 |x::rest,n,t=>cond (tb m x.1) (DW T call W ops N m rest n t) (match ops[x.1]? with
  |some o=>cond (agr o.op) (cond (mJ N o.dst) (match o.guard with
   |none=>match rO T call t W n o.op with
    |some (v,e,bl,n')=>match DW T call W ops N m rest n' (dY o.dst v t) with
     |some (l,tf,nf)=>some (⟨x.1,o.dst,v,e,bl,n,n'⟩::l,tf,nf)
     |none=>none
    |none=>none
   |some _=>none) none) (DW T call W ops N m rest n t)
  |none=>none)
theorem nG {T:bH}{call:aj}{W:AW}{ops:Array Oper}{N m:Nat}:∀(info:Info) {n nf:Nat} {t tf:TT} {l:List ME},DW T call W ops N m info n t=some (l,tf,nf)→Cf T call W ops N m n t l tf nf
 |[],n,nf,t,tf,l,h=>by
  simp only[DW,Option.some.injEq,Prod.mk.injEq] at h;obtain⟨rfl,rfl,rfl⟩:=h;exact .nil _ _
 |x::rest,n,nf,t,tf,l,h=>by
  unfold DW at h
  cases hm:tb m x.1 with
  |true=>
   rw[hm] at h;exact nG rest h
  |false=>
   rw[hm] at h;simp only[cond_false] at h;split at h
   case h_2=>cases h
   case h_1 o ho=>
   cases hk:agr o.op with
   |false=>
    rw[hk] at h;exact nG rest h
   |true=>
    rw[hk] at h
    cases hd:mJ N o.dst with
    |false=>rw[hd] at h;cases h
    |true=>
    rw[hd] at h;simp only[cond_true] at h;split at h
    case h_2=>cases h
    case h_1 hg=>
    split at h
    case h_2=>cases h
    case h_1 v e bl n' he=>
    split at h
    case h_2=>cases h
    case h_1 l' tf' nf' hl=>
    simp only[Option.some.injEq,Prod.mk.injEq] at h;obtain⟨rfl,rfl,rfl⟩:=h;exact .cons ho hg hd hm he (nG rest hl)
theorem Vk {T:bH}{call:aj}{t:TT}{W:AW}{n n':Nat}{op:Op}{v:AV}{en:Option (AV×AV)}{bl:List (Nat×aF)}(h:rO T call t W n op=some (v,en,bl,n')):n≤n':=by
 unfold rO at h
 repeat' split at h
 all_goals first
  |(simp only[Option.some.injEq,Prod.mk.injEq] at h;omega)
  |(unfold Cq at h
    rename_i g l m _;generalize hfl:gY (l++_++m)=fl at h
    cases fl with
    |false=>cases h
    |true=>
    simp only[cond_true] at h
    repeat' split at h
    all_goals first
     |(simp only[Option.some.injEq,Prod.mk.injEq] at h;omega)
     |cases h)
  |(rename_i ik _
    generalize hko:keyOf ik.kd _=ko at h
    cases ko with
    |false=>cases h
    |true=>simp only[cond_true,Option.some.injEq,Prod.mk.injEq] at h;omega)
  |cases h
theorem Cf.range {T:bH}{call:aj}{W:AW}{ops:Array Oper}{N m:Nat}{n nf:Nat}{t tf:TT}{l:List ME}(h:Cf T call W ops N m n t l tf nf):n≤nf∧(∀e∈l,n≤e.lo∧e.lo≤e.hi∧e.hi≤nf)∧l.Pairwise fun e e'=>e.hi≤e'.lo:=by
 induction h with
 |nil=>exact⟨zn _,fun e he=>(by cases he),.nil⟩
 |cons ho hg hd hm h hl ih=>
  obtain⟨h1,h2,h3⟩:=ih;have hh:=Vk h;refine⟨zy,fun e he=>?_,yT.2 ⟨fun e he=>(h2 e he).1,h3⟩⟩
  rcases zQ.1 he with rfl|he
  ·exact⟨zn _,hh,h1⟩
  ·have:=h2 e he;omega
structure mY (t0:TT)(l:List ME)(L:Nat→Bool)(tL:TT):Prop where
 yes:∀e∈l,L e.i=true→∀k,e.d=some k→dZ k tL=e.v
 no:∀k,(∀e∈l,L e.i=true→e.d≠some k)→dZ k tL=dZ k t0
def Apart (l:List ME):Prop:=l.Pairwise fun e e'=>e.i≠e'.i∧∀k,e.d=some k→e'.d≠some k
theorem Apart.of {l:List ME}(h:Apart l):∀{e e':ME},e∈l→e'∈l→(e.i=e'.i∨∃k,e.d=some k∧e'.d=some k)→e=e':=by
 induction h with
 |nil=>intro e e' h;cases h
 |cons hx _ ih=>
  intro e e' he he' hor;rcases zQ.1 he with h1|h1<;>rcases zQ.1 he' with h2|h2
  ·exact h1.trans h2.symm
  ·subst h1;have:=hx e' h2;rcases hor with h|⟨k,hk,hk'⟩
   ·exact (this.1 h).elim
   ·exact (this.2 k hk hk').elim
  ·subst h2;have:=hx e h1;rcases hor with h|⟨k,hk,hk'⟩
   ·exact (this.1 h.symm).elim
   ·exact (this.2 k hk' hk).elim
  ·exact ih h1 h2 hor
def plus (L:Nat→Bool)(i:Nat):Nat→Bool:=fun j=>decide (i=j) || L j
theorem iH (L:Nat→Bool)(i:Nat):plus L i i=true:=by simp[plus]
theorem dI (L:Nat→Bool){i j:Nat}(h:i≠j):plus L i j=L j:=by simp[plus,h]
theorem qw {L:Nat→Bool}{i j:Nat}(h:L j=true):plus L i j=true:=by simp[plus,h]
theorem ZK {N i:Nat}(h:mJ N (some i)=true):i < N∧i < 1048575:=by
 simpa [mJ,Nat.blt_eq] using h
theorem qh {N:Nat}{d:Option Nat}(hd:mJ N d=true)(v:AV)(t:TT)(k:Nat):dZ k (dY d v t)=if d=some k then v else dZ k t:=by
 cases d with
 |none=>simp[dY]
 |some i=>
  simp only[dY,Option.some.injEq];exact l9 (ZK hd).2 t v k
theorem mY.put {t0:TT}{l:List ME}{L:Nat→Bool}{tL:TT}(h:mY t0 l L tL)(hap:Apart l){e:ME}(he:e∈l){N:Nat}(hd:mJ N e.d=true):mY t0 l (plus L e.i) (dY e.d e.v tL):=by
 refine⟨fun e' he' hL k hk=>?_,fun k hk=>?_⟩
 ·rw[qh hd];split
  ·rename_i FT;rw[hap.of he he' (.inr ⟨k,FT,hk⟩)]
  ·rename_i FT;simp only[plus,Bool.or_eq_true,decide_eq_true_eq] at hL;rcases hL with hL|hL
   ·have:=hap.of he he' (.inl hL);subst this;exact (FT hk).elim
   ·exact h.yes e' he' hL k hk
 ·rw[qh hd,za (hk e he (iH _ _))];exact h.no k fun e' he' hL=>hk e' he' (qw hL)
theorem mY.nil (t0:TT)(l:List ME):mY t0 l (fun _=>false) t0:=⟨fun e _ h=>(by cases h),fun k _=>rfl⟩
theorem mY.ext {t0:TT}{l:List ME}{L L':Nat→Bool}{tL:TT}(h:mY t0 l L tL)(hL:∀e∈l,L e.i=L' e.i):mY t0 l L' tL:=
 ⟨fun e he hl=>h.yes e he (by rw[hL e he];exact hl),fun k hk=>h.no k fun e he hl=>hk e he (by rw[← hL e he];exact hl)⟩
theorem mY.under {t0:TT}{e:ME}{l:List ME}{tL:TT}{N:Nat}(hd:mJ N e.d=true)(hno:∀e'∈l,∀k,e.d=some k→e'.d≠some k)(h:mY (dY e.d e.v t0) l (fun _=>true) tL):mY t0 (e::l) (fun _=>true) tL:=by
 refine⟨fun e' he' _ k hk=>?_,fun k hk=>?_⟩
 ·rcases zQ.1 he' with rfl|he'
  ·rw[h.no k fun e2 he2 _=>hno e2 he2 k hk,qh hd,zW hk]
  ·exact h.yes e' he' rfl k hk
 ·rw[h.no k fun e2 he2 _=>hk e2 (ze _ he2) rfl,qh hd,za (hk e zb rfl)]
theorem Cf.at {T:bH}{call:aj}{W:AW}{ops:Array Oper}{N m:Nat}:∀{n nf:Nat} {t tf:TT} {l:List ME},Cf T call W ops N m n t l tf nf→Apart l→∀{e:ME},e∈l→∃l1 l2 te o,l=l1++e::l2∧mY t l1 (fun _=>true) te∧ops[e.i]? =some o∧o.guard=none∧o.dst=e.d∧mJ N e.d=true∧tb m e.i=false∧rO T call te W e.lo o.op=some (e.v,e.en,e.bl,e.hi):=by
 intro n nf t tf l hp
 induction hp with
 |nil=>intro _ e he;cases he
 | @cons n nf n' t tf i o v en bl l ho hg hd hm h hl ih=>
   intro hap e he;have Z7:=yT.1 hap;rcases zQ.1 he with rfl|he
   ·exact⟨[],l,t,o,rfl,⟨fun e he=>(by cases he),fun k _=>rfl⟩,ho,hg,rfl,hd,hm,h⟩
   ·obtain⟨l1,l2,te,o',h1,h2,h3⟩:=ih Z7.2 he;refine⟨_::l1,l2,te,o',by rw[h1];rfl,mY.under (e:=⟨i,o.dst,v,en,bl,n,n'⟩) hd (fun e' he' k hk=>(Z7.1 e' (by rw[h1];exact xV _ he')).2 k hk) h2,h3⟩
theorem Cf.final {T:bH}{call:aj}{W:AW}{ops:Array Oper}{N m:Nat}:∀{n nf:Nat} {t tf:TT} {l:List ME},Cf T call W ops N m n t l tf nf→Apart l→mY t l (fun _=>true) tf:=by
 intro n nf t tf l hp
 induction hp with
 |nil n t=>intro _;exact⟨fun e he=>(by cases he),fun k _=>rfl⟩
 | @cons n nf n' t tf i o v en bl l ho hg hd hm h hl ih=>
   intro hap;have Z7:=yT.1 hap;exact mY.under (e:=⟨i,o.dst,v,en,bl,n,n'⟩) hd (fun e' he' k hk=>(Z7.1 e' he').2 k hk) (ih Z7.2)
theorem aS.same {ρ:Env}{n N:Nat}{t t':TT}{a:Act}(h:aS ρ n N t a)(he:∀k,dZ k t'=dZ k t):aS ρ n N t' a:=
 ⟨h.size,fun i=>by rw[he];exact h.get i,fun i=>by rw[he];exact h.ok i,by rw[he];exact h.defers⟩
theorem mY.eq {t0:TT}{l:List ME}{t t':TT}(h:mY t0 l (fun _=>true) t)(h':mY t0 l (fun _=>true) t')(k:Nat):dZ k t'=dZ k t:=by
 by_cases hk:∃e∈l,e.d=some k
 ·obtain⟨e,he,FT⟩:=hk;rw[h.yes e he rfl k FT,h'.yes e he rfl k FT]
 ·have hno:∀e∈l,(fun _:Nat=>true) e.i=true→e.d≠some k:=fun e he _ FT=>hk ⟨e,he,FT⟩
  rw[h.no k hno,h'.no k hno]
theorem Ez {α β:Type}{l:List α}{f g:α→Option β}(h:∀x∈l,f x=g x):l.filterMap f=l.filterMap g:=by
 induction l with
 |nil=>rfl
 |cons x l ih=>rw[xc,xc,h x zb,ih fun y hy=>h y (ze _ hy)]
def kT (l:List ME)(L:Nat→Bool):List (AV×AV):=l.filterMap fun e=>cond (L e.i) e.en none
theorem aay {l:List ME}{L L':Nat→Bool}(h:∀e∈l,L e.i=L' e.i):kT l L=kT l L':=by
 unfold kT
 induction l with
 |nil=>rfl
 |cons x l ih=>
  rw[xc,xc,h x zb,ih fun e he=>h e (ze _ he)]
theorem AY {l:List ME}(hap:Apart l){L:Nat→Bool}{e:ME}(he:e∈l)(hen:e.en=none):kT l (plus L e.i)=kT l L:=by
 unfold kT;refine Ez fun x hx=>?_
 by_cases h:e.i=x.i
 ·have:=hap.of he hx (.inl h);subst this;rw[hen]
  cases L e.i<;>cases plus L e.i e.i<;>rfl
 ·rw[dI _ h]
theorem Ih {l:List ME}(hap:Apart l){L:Nat→Bool}{e:ME}(he:e∈l)(hL:L e.i=false){x:AV×AV}(hen:e.en=some x):(kT l (plus L e.i)).Perm (kT l L++[x]):=by
 unfold kT
 induction l with
 |nil=>cases he
 |cons y l ih=>
  have ND:Apart l:=(yT.1 hap).2;rcases zQ.1 he with rfl|he'
  ·have hrest:(l.filterMap fun e'=>cond (plus L e.i e'.i) e'.en none)=l.filterMap fun e'=>cond (L e'.i) e'.en none:=Ez fun z hz=>by
    rw[dI _ ((yT.1 hap).1 z hz).1]
   rw[xc,xc,hrest];have h1:cond (plus L e.i e.i) e.en none=some x:=by rw[hen,iH];rfl
   have h2:(cond (L e.i) e.en none:Option (AV×AV))=none:=by rw[hL];rfl
   rw[h1,h2];exact (List.perm_append_singleton x _).symm
  ·have hne:e.i≠y.i:=fun h=>((yT.1 hap).1 e he').1 h.symm
   have ih:=ih ND he';rw[xc,xc,dI _ hne]
   cases hc:(cond (L y.i) y.en none:Option (AV×AV)) with
   |none=>exact ih
   |some z=>exact ih.cons z
theorem EN {l:List ME}{L:Nat→Bool}{x:AV×AV}(h:x∈kT l L):∃e∈l,L e.i=true∧e.en=some x:=by
 unfold kT at h;obtain⟨e,he,hx⟩:=List.mem_filterMap.1 h
 cases hL:L e.i with
 |false=>rw[hL] at hx;cases hx
 |true=>rw[hL] at hx;exact⟨e,he,hL,hx⟩
def nP (l:List ME)(L:Nat→Bool):List (Nat×aF):=l.flatMap fun e=>cond (L e.i) e.bl []
theorem abm {l:List ME}{L L':Nat→Bool}(h:∀e∈l,L e.i=L' e.i):nP l L=nP l L':=by
 unfold nP
 induction l with
 |nil=>rfl
 |cons x l ih=>
  rw[yM,yM,h x zb,ih fun e he=>h e (ze _ he)]
theorem Bd {l:List ME}(hap:Apart l){L:Nat→Bool}{e:ME}(he:e∈l)(hb:e.bl=[]):nP l (plus L e.i)=nP l L:=by
 unfold nP
 have:∀x∈l,(cond (plus L e.i x.i) x.bl [])=cond (L x.i) x.bl []:=fun x hx=>by
  by_cases h:e.i=x.i
  ·have:=hap.of he hx (.inl h);subst this;rw[hb]
   cases L e.i<;>cases plus L e.i e.i<;>rfl
  ·rw[dI _ h]
 clear hap he
 induction l with
 |nil=>rfl
 |cons x l ih=>rw[yM,yM,this x zb,ih fun y hy=>this y (ze _ hy)]
theorem Wu {l:List ME}(hap:Apart l){L:Nat→Bool}{e:ME}(he:e∈l)(hL:L e.i=false):(e.bl++nP l L).Perm (nP l (plus L e.i)):=by
 unfold nP
 induction l with
 |nil=>cases he
 |cons y l ih=>
  have ND:Apart l:=(yT.1 hap).2;rcases zQ.1 he with rfl|he'
  ·have hrest:(l.flatMap fun e'=>cond (plus L e.i e'.i) e'.bl [])=l.flatMap fun e'=>cond (L e'.i) e'.bl []:=by
    have:∀z∈l,(cond (plus L e.i z.i) z.bl [])=cond (L z.i) z.bl []:=fun z hz=>by rw[dI _ ((yT.1 hap).1 z hz).1]
    clear ih hap ND he
    induction l with
    |nil=>rfl
    |cons x l ih=>rw[yM,yM,this x zb,ih fun y hy=>this y (ze _ hy)]
   rw[yM,yM,hrest,hL,iH];exact .refl _
  ·have hne:e.i≠y.i:=fun h=>((yT.1 hap).1 e he').1 h.symm
   have ih:=ih ND he';rw[yM,yM,dI _ hne];refine .trans ?_ (ih.append_left _);rw[← yc,← yc];exact List.perm_append_comm.append_right _
theorem Ou {l:List ME}{L:Nat→Bool}{x:Nat×aF}(h:x∈nP l L):∃e∈l,L e.i=true∧x∈e.bl:=by
 unfold nP at h;obtain⟨e,he,hx⟩:=wO.1 h
 cases hL:L e.i with
 |false=>rw[hL] at hx;cases hx
 |true=>rw[hL] at hx;exact⟨e,he,hL,hx⟩
theorem aJ.perm {w0 w:World}{ρ:Env}{n:Nat}{bl bl':List (Nat×aF)}{m m':List Nat}{gl:List (Nat×List Value)}(h:aJ w0 ρ ⟨n,bl,m,gl⟩ w)(hp:bl.Perm bl'):aJ w0 ρ ⟨n,bl',m',gl⟩ w:=by
 have hn:(bl'.map (·.1)).Nodup:=(hp.map (·.1)).nodup_iff.1 h.ng;have hg:∀b k,au b bl'=some k→au b bl=some k:=fun b k hb=>eP h.ng (hp.mem_iff.2 (bf hb))
 exact⟨h.below,fun b k hb=>h.ok b k (hg b k hb),fun b b' k k' h1 h2=>h.inj b b' k k' (hg _ _ h1) (hg _ _ h2),fun b k hb=>h.rep b k (hg b k hb),hn,h.gl⟩
theorem aJ.grow {w0 w:World}{ρ:Env}{n n':Nat}{bl:List (Nat×aF)}{m:List Nat}{gl:List (Nat×List Value)}(h:aJ w0 ρ ⟨n,bl,m,gl⟩ w)(hn:n≤n'):aJ w0 ρ ⟨n',bl,m,gl⟩ w:=
 ⟨h.below,fun b k hb=>by
   obtain⟨q1,q2,q3⟩:=h.ok b k hb;exact⟨zZ q1 hn,aF.ok.mono hn q2,q3⟩,h.inj,h.rep,h.ng,h.gl⟩
theorem aJ.more {w0 w w':World}{ρ dC:Env}{n:Nat}{bl new:List (Nat×aF)}{m:List Nat}{gl:List (Nat×List Value)}(h:aJ w0 ρ ⟨n,bl,m,gl⟩ w)(hg:Gr w w' (fun _=>False))
 (hkeep:∀b k,au b bl=some k→dC.blk b=ρ.blk b∧k.rep dC w' b)
 (JZ:(new.map (·.1)).Nodup) (aqP:∀x∈new,∀k,au x.1 bl≠some k)
 (hnew:∀x∈new,x.1 < n∧x.2.ok n∧w.heap.size≤dC.blk x.1∧dC.blk x.1 < w'.heap.size∧x.2.rep dC w' x.1)
 (hinj:∀x∈new,∀y∈new,dC.blk x.1=dC.blk y.1→x.1=y.1):aJ w0 dC ⟨n,new++bl,m,gl⟩ w':=by
 have hB:Below w0.heap.size w0 w':=h.below.trans (hg.below h.below.size fun _ hf=>hf.elim)
 have hnb:((new++bl).map (·.1)).Nodup:=by
  rw[yu];refine xK.2 ⟨JZ,h.ng,fun a ha b hb e=>?_⟩
  subst e;obtain⟨x,hx,rfl⟩:=zX.1 ha;obtain⟨y,hy,hxy⟩:=zX.1 hb;exact aqP x hx y.2 (by rw[← hxy];exact eP h.ng hy)
 have hget:∀b k,au b (new++bl)=some k→(b,k)∈new∨au b bl=some k:=fun b k hb=>by
  rcases zA.1 (bf hb) with h1|h1
  ·exact .inl h1
  ·exact .inr (eP h.ng h1)
 refine⟨hB,fun b k hb=>?_,fun b b' k k' h1 h2 e=>?_,fun b k hb=>?_,hnb,h.gl⟩
 ·rcases hget b k hb with h1|h1
  ·obtain⟨q1,q2,q3,q4,_⟩:=hnew _ h1;exact⟨q1,q2,zV h.below.size q3,q4⟩
  ·obtain⟨q1,q2,q3,q4⟩:=h.ok b k h1;rw[(hkeep b k h1).1];exact⟨q1,q2,q3,zZ q4 hg.size⟩
 ·rcases hget b k h1 with h1|h1<;>rcases hget b' k' h2 with h2|h2
  ·exact hinj _ h1 _ h2 e
  ·have q1:=(hnew _ h1).2.2.1;have q2:=(h.ok b' k' h2).2.2.2;rw[← (hkeep b' k' h2).1,← e] at q2;have q1:w.heap.size≤dC.blk b:=q1;omega
  ·have q1:=(hnew _ h2).2.2.1;have q2:=(h.ok b k h1).2.2.2;rw[← (hkeep b k h1).1,e] at q2;have q1:w.heap.size≤dC.blk b':=q1;omega
  ·rw[(hkeep b k h1).1,(hkeep b' k' h2).1] at e;exact h.inj b b' k k' h1 h2 e
 ·rcases hget b k hb with h1|h1
  ·exact (hnew _ h1).2.2.2.2
  ·exact (hkeep b k h1).2
theorem aJ.head {w0 w w':World}{ρ:Env}{n b:Nat}{k k':aF}{bl:List (Nat×aF)}{m:List Nat}{gl:List (Nat×List Value)}(h:aJ w0 ρ ⟨n,(b,k)::bl,m,gl⟩ w)(hg:Gr w w' (fun i=>ρ.blk b=i))(hk:k'.ok n)(hr:k'.rep ρ w' b):aJ w0 ρ ⟨n,(b,k')::bl,m,gl⟩ w':=by
 have hp:=(aJ.write (k:=k') h (aA b k bl) hg hk hr).rep;have e:ib b k' ((b,k)::bl)=(b,k')::bl:=by simp[ib]
 rw[e] at hp;exact hp.perm (.refl _)
def Env.upd (ρ:Env)(lo hi:Nat)(f:Nat→Nat):Env:=⟨fun b=>if lo≤b∧b < hi then f (b - lo) else ρ.blk b,ρ.cap,ρ.es⟩
theorem Env.upd_same (ρ:Env)(lo hi:Nat)(f:Nat→Nat):Same (fun b=>¬IJ lo hi b) ρ (ρ.upd lo hi f):=⟨fun _b hb=>za hb,fun _ _=>rfl,rfl⟩
theorem Env.IY (ρ:Env){lo hi:Nat}(f:Nat→Nat){b:Nat}(h:IJ lo hi b):(ρ.upd lo hi f).blk b=f (b - lo):=zW h
theorem Yc {ρ dC:Env}{w w':World}{b:Nat}{es:List (AV×AV)}(h:(aF.lS es).rep ρ w b)(hb:dC.blk b=ρ.blk b)(hw:w'.heap[ρ.blk b]? =w.heap[ρ.blk b]?)(he:∀x∈es,cv dC x.1=cv ρ x.1∧cv dC x.2=cv ρ x.2):(aF.lS es).rep dC w' b:=by
 obtain⟨arr,c,h1,h2,h3⟩:=h;have e1:(es.map fun x=>(cv dC x.1,cv dC x.2))=es.map fun x=>(cv ρ x.1,cv ρ x.2):=yt fun x hx=>by rw[(he x hx).1,(he x hx).2]
 have e2:(es.map fun x=>cv dC x.1)=es.map fun x=>cv ρ x.1:=yt fun x hx=>(he x hx).1
 refine⟨arr,c,?_,by rw[e1];exact h2,by rw[e2];exact h3⟩
 rw[hb,hw];exact h1
theorem RZ {ρ dC:Env}{w w':World}{b b' e:Nat}{vs vs':List AV}(h:(aF.cells vs e none).rep ρ w b)(hb:dC.blk b'=ρ.blk b)(hw:w'.heap[ρ.blk b]? =w.heap[ρ.blk b]?)(he:aH dC vs'=aH ρ vs):(aF.cells vs' e none).rep dC w' b':=by
 show _=_;rw[hb,hw,he];exact h
structure abO (ops:Array Oper)(m:Nat)(l:List ME)(mi dm mb s0:Nat):Prop where
 apart:Apart l
 one:∃e∈l,∃o s,e.i=mi∧e.d=some dm∧e.v= .map mb∧e.lo=mb∧e.hi=mb+1∧ops[mi]? =some o∧o.op= .makeMap s none
 makes:∀e∈l,∀o,ops[e.i]? =some o→∀s,o.op= .makeMap s none→e.i=mi
 ins:∀e∈l,∀o,ops[e.i]? =some o→∀s mm k x,o.op= .insert s mm k x→s=s0∧mm= .tmp dm∧mi∈dP o
 opers:∀l1 e l2,l=l1++e::l2→∀o,ops[e.i]? =some o→∀k,Operand.tmp k∈o.op.operands.toList→∀e'∈l,e'.d=some k→e'.i∈dP o∧∃e2∈l1,e2.i=e'.i
 keys:l.Pairwise fun e e'=>∀x y,e.en=some x→e'.en=some y→mH x.1 y.1=some false
 first:∀l1 e l2,l=l1++e::l2→∀o,ops[e.i]? =some o→∀d∈dP o,tb m d=true∨∃e'∈l1,e'.i=d
 others:∀j o,ops[j]? =some o→tb m j=false→(∀e∈l,e.i≠j)→(∃d∈dP o,tb m d=false∧∀e∈l,e.i≠d)∨∀e∈l,e.i∈dP o
def WL (W:AW)(l:List ME)(mi mb nf:Nat)(L:Nat→Bool):AW:=⟨nf,cond (L mi) [(mb,.lS (kT l L))] []++(nP l L++W.bl),W.az,W.gl⟩
def gG (n:Nat)(l:List ME)(L:Nat→Bool)(b:Nat):Prop:=b < n∨∃e∈l,L e.i=true∧IJ e.lo e.hi b
structure ab0 (n nf:Nat)(l:List ME)(L:Nat→Bool)(e:ME):Prop where
 val:Only (gG n l L) e.v
 iZ:∀x,e.en=some x→x.1.ok nf∧Only (gG n l L) x.1∧x.2.ok nf∧Only (gG n l L) x.2
 blo:∀x∈e.bl,IJ e.lo e.hi x.1∧∃vs ty,x.2= .cells vs ty none∧jO (IJ e.lo e.hi) vs
structure kN (w0:World)(Lg:Env)(W:AW)(wm:World)(N nf:Nat)(t0:TT)(l:List ME)(mi mb:Nat)(L:Nat→Bool)(ρ:Env)(a:Act)(w:World):Prop where
 ext:Ext W.nx Lg ρ
 gr:Gr wm w (fun _=>False)
 rep:aJ w0 ρ (WL W l mi mb nf L) w
 far:∀b,W.nx≤b→b < nf→wm.heap.size≤ρ.blk b
 Xx:∃tL,aS ρ nf N tL a∧mY t0 l L tL
 fine:∀e∈l,L e.i=true→ab0 W.nx nf l L e
 af9:L mi=false→∀e∈l,L e.i=true→e.en=none
theorem gG.plus {n:Nat}{l:List ME}{L:Nat→Bool}{i b:Nat}(h:gG n l L b):gG n l (plus L i) b:=by
 rcases h with h|⟨e,he,hL,hr⟩
 ·exact .inl h
 ·exact .inr ⟨e,he,qw hL,hr⟩
theorem ab0.plus {n nf:Nat}{l:List ME}{L:Nat→Bool}{i:Nat}{e:ME}(h:ab0 n nf l L e):ab0 n nf l (plus L i) e:=
 ⟨h.val.mono fun _=>gG.plus,fun x hx=>by
   obtain⟨h1,h2,h3,h4⟩:=h.iZ x hx;exact⟨h1,h2.mono fun _=>gG.plus,h3,h4.mono fun _=>gG.plus⟩,h.blo⟩
theorem kN.post {w0:World}{Lg:Env}{W:AW}{wm:World}{N nf:Nat}{t0:TT}{l:List ME}{mi mb:Nat}{L:Nat→Bool}{ρ:Env}{a:Act}{w:World}(h:kN w0 Lg W wm N nf t0 l mi mb L ρ a w)(hnf:W.nx≤nf)(hmb:W.nx≤mb)(hlo:∀e∈l,W.nx≤e.lo):Post w0 Lg W wm ρ (WL W l mi mb nf L) w:=by
 refine⟨h.ext,hnf,fun _ h=>h,h.gr.mono fun _ _ hf=>hf.elim,fun b h1 h2 h3=>?_,h.rep,fun b hb hs=>?_,fun _ _ h=>.inl h,rfl⟩
 ·have:=h.far b h1 h2;omega
 ·obtain⟨k,hk⟩:=z8.1 hs;rcases zA.1 (bf hk) with h1|h1
  ·cases hL:L mi with
   |false=>rw[hL] at h1;cases h1
   |true=>
    rw[hL] at h1
    have:b=mb:=by
     have:=zR.1 h1;exact (zm this).1
    omega
  ·rcases zA.1 h1 with h1|h1
   ·obtain⟨e,he,hL,hx⟩:=Ou h1;have:=((h.fine e he hL).blo _ hx).1.1;have:=hlo e he;have h3:e.lo≤b:=by assumption
    omega
   ·have hn:(W.bl.map (·.1)).Nodup:=by
     have:=h.rep.ng;simp only[WL,List.map_append] at this;exact (xK.1 (xK.1 this).2.1).2.1
    rw[eP hn h1];rfl
def Steps (P:Program)(a:Act)(o:Oper)(w:World)(v:AV)(R:Env→World→Prop):Prop:=
 (∃ρ' w',((execOp a.eval o).run P w= .ok (.value (cv ρ' v)) w'∨((execOp a.eval o).run P w= .ok .skip w'∧v= .tuple []))∧R ρ' w')∨
 (∃g args,(execOp a.eval o).run P w= .ok (.enter g args) w∧Calls P g args w fun e w'=>∃ρ',e= .returned (cv ρ' v)∧R ρ' w')
theorem Steps.wp {P:Program}{a:Act}{o:Oper}{w:World}{v:AV}{R:Env→World→Prop}(h:Steps P a o w v R){K:Act→World→Prop}{Q:Exit→Act→World→Prop}
 (hk:∀ρ' w',R ρ' w'→K (a.put o.dst (cv ρ' v)) w'):o.wp P a w K Q:=by
 unfold Oper.wp;rcases h with⟨ρ',w',h1,h2⟩|⟨g,args,h1,h2⟩
 ·rcases h1 with h1|⟨h1,rfl⟩
  ·rw[h1];exact hk ρ' w' h2
  ·rw[h1];exact hk ρ' w' h2
 ·rw[h1,Oper.upon_enter];refine h2.mono ?_;rintro e w' ⟨ρ',rfl,h3⟩;exact hk ρ' w' h3
theorem Steps.wpIn {P:Program}{a:Act}{o:Oper}{w:World}{v:AV}{R:Env→World→Prop}(h:Steps P a o w v R)(hd:∀c,o.op≠ .defer c){rb:Option Nat}{K:Act→World→Prop}{Q:Exit→Act→World→Prop}
 (hk:∀ρ' w',R ρ' w'→K (a.put o.dst (cv ρ' v)) w'):o.wpIn (fw rb) 0 P a w K Q:=by
 refine⟨fun _ _=>trivial,?_⟩
 rw[xO _ _ _ hd];rcases h with⟨ρ',w',h1,h2⟩|⟨g,args,h1,h2⟩
 ·rcases h1 with h1|⟨h1,rfl⟩
  ·rw[h1];exact hk ρ' w' h2
  ·rw[h1];exact hk ρ' w' h2
 ·rw[h1,Oper.uponIn_enter];refine⟨fun h=>(by cases h),Ew (h2.mono ?_)⟩
  rintro e w' ⟨ρ',rfl,h3⟩;exact hk ρ' w' h3
theorem aep {l:List ME}(h:l.Pairwise fun e e'=>∀x y,e.en=some x→e'.en=some y→mH x.1 y.1=some false)(ρ:Env):∀{e e':ME},e∈l→e'∈l→e≠e'→∀{x y},e.en=some x→e'.en=some y→cv ρ x.1≠cv ρ y.1:=by
 induction h with
 |nil=>intro e e' h;cases h
 |cons hx _ ih=>
  intro e e' he he' hne x y h1 h2;rcases zQ.1 he with q1|q1<;>rcases zQ.1 he' with q2|q2
  ·exact (hne (q1.trans q2.symm)).elim
  ·subst q1;exact Ea (hx e' q2 x y h1 h2) ρ
  ·subst q2;exact fun e0=>Ea (hx e q1 y x h2 h1) ρ e0.symm
  ·exact ih q1 q2 hne h1 h2
theorem anN {t t':TT}{x:Operand}(h:∀k,x= .tmp k→dZ k t=dZ k t'):ev t x=ev t' x:=by
 cases x with
 |tmp k=>exact h k rfl
 |_=>rfl
theorem ZH {P:Program}{T:bH}(hT:aZ P T){ρ:Env}{w:World}{b s kt et:Nat}{i ik:su}{es es':List (AV×AV)}{k v:AV}(hi:T.get s=some i)(hkd:i.kd= .map kt et)(hik:T.get kt=some ik)(hko:keyOf ik.kd k=true)(hall:∀x∈es,keyOf ik.kd x.1=true)
 (hno:∀x∈es,cv ρ x.1≠cv ρ k) (hrep:(aF.lS es).rep ρ w b) (p4:ρ.blk b < w.heap.size) (hp:es'.Perm (es++[(k,v)])):
 ∃w',(Instr.mapUpdate s (.map (some (ρ.blk b))) (cv ρ k) (cv ρ v)).run P w= .ok () w'∧Gr w w' (fun i=>ρ.blk b=i)∧(aF.lS es').rep ρ w' b:=by
 have hu:=(hT s i hi).map hkd;obtain⟨d,hud,_,hdk⟩:=(hT kt ik hik).under;have hck:∀e,(Instr.checkKey e 10000 kt (cv ρ k)).run P w= .ok () w:=fun e=>run_checkKey hud (pq hdk hko ρ) e 9999
 obtain⟨arr,clock,hheap,hperm,JZ⟩:=hrep
 have hkeys:∀x∈arr.toList,IsKey d x.key:=fun x hx=>by
  have:(x.key,x.val)∈arr.toList.map fun e=>(e.key,e.val):=zX.2 ⟨x,hx,rfl⟩
  obtain⟨y,hy,e⟩:=zX.1 (hperm.mem_iff.1 this);have:=(zm e).1;rw[← this];exact pq hdk (hall y hy) ρ
 have Ei:Instr.findNow d (cv ρ k) arr.toList 0=some none:=by
  rcases findNow_spec (pq hdk hko ρ) arr.toList 0 hkeys with⟨h1,_⟩|⟨j,e,h1,h2,h3⟩
  ·exact h1
  ·have he:(cv ρ k,e.val)∈arr.toList.map fun e=>(e.key,e.val):=zX.2 ⟨e,zD h2,by rw[h3]⟩
   obtain⟨y,hy,hye⟩:=zX.1 (hperm.mem_iff.1 he);exact (hno y hy (zm hye).1).elim
 have Ei:=run_findKey (P:=P) (w:=w) hud Ei
 have hpm:((arr.push { key:=cv ρ k,val:=cv ρ v,born:=clock}).toList.map fun e=>(e.key,e.val)).Perm (es'.map fun x=>(cv ρ x.1,cv ρ x.2)):=by
  rw[Array.toList_push,yu];refine .trans (hperm.append_right _) ?_;have:=(hp.map fun x=>(cv ρ x.1,cv ρ x.2)).symm
  rw[yu] at this;exact this
 have hnd:(es'.map fun x=>cv ρ x.1).Nodup:=by
  refine (hp.map fun x=>cv ρ x.1).nodup_iff.2 ?_
  rw[yu];refine xK.2 ⟨JZ,zw,fun a ha c hc e=>?_⟩
  obtain⟨x,hx,rfl⟩:=zX.1 ha;have hc:c=cv ρ k:=by simpa using hc
  exact hno x hx (e.trans hc)
 refine⟨w.putObj (ρ.blk b) (.map (arr.push { key:=cv ρ k,val:=cv ρ v,born:=clock}) (clock+1)),?_,J7 w _ _,_,_,World.putObj_heap_same p4,hpm,hnd⟩;simp only[Instr.mapUpdate,Sem.run_bind,run_underlying hu,Result.andThen_ok,Go.MapKept.run_getObj_map hheap,hck,Ei];rw[wC _ hheap];rfl
theorem Wt {P:Program}{T:bH}(hT:aZ P T){ρ:Env}{n N:Nat}{t:TT}{a:Act}(ht:aS ρ n N t a){s:Nat}{i:su}{fs:List (Nat×Nat×Nat)}{parts:Array (Nat×Operand)}{l:List AV}(hi:T.get s=some i)(hk:i.kd= .struct fs)
 (hl:kK (fun f=>(fs[f]?).map fun y=>(y.1,y.2.2)) (i.zero.map gX) (parts.toList.map fun p=>(p.1,ev t p.2))=some l) {dst:Option Tmp} {type:TypeId} {pos:String} {after:Array Edge} {guard:Option (Nat×Bool)} (w2:World):
 (execOp a.eval (⟨dst,.build s parts,type,pos,after,guard⟩:Oper)).run P w2= .ok (.value (cv ρ (.agg l))) w2:=by
 obtain⟨f,z,hf,hfs,hfz,hzc⟩:=(hT s i hi).info;have hz:z.cells=(aH ρ (i.zero.map gX)).toArray:=by rw[kL,← hzc]
 have hp:(parts.map fun (x:Nat×Operand)=>(x.1,a.eval x.2)).toList=(parts.toList.map fun p=>(p.1,ev t p.2)).map fun x=>(x.1,cv ρ x.2):=by simp[ht.eval]
 obtain⟨fields,h1,h2,h3⟩:=(hT s i hi).struct hk;have uq:=mQ (ρ:=ρ) _ _ hl;have hpl:=Ae fields.toList fs h2 fun x hx=>(h3 x hx).1
 have hb:P.built s (parts.map fun (x:Nat×Operand)=>(x.1,a.eval x.2)).toList=some (aH ρ l).toArray:=by
  unfold Program.built;simp only[hf,h1,hfz,hpl,hp,hz];rw[← uq]
  congr 1
  funext f
  simp
 have:=run_build w2 s _ _ hb;simp only[execOp,Sem.run_bind,this,Result.andThen_ok,Sem.run_pure,cv]
theorem qK (p:Nat→Prop)(v:Value):Only p (gX v):=fun b hb=>by
 unfold gX at hb;split at hb<;>simp[gL] at hb
theorem Ol {p:Nat→Prop}{v:AV}(h:Only p v):jO p (dQ v):=by
 cases v with
 |agg l=>exact fun b hb=>h b (by simpa [gL,dQ] using hb)
 |_=>exact je.2 ⟨h,jW _⟩
theorem EK {p:Nat→Prop}{place:Nat→Option (Nat×Nat)}:∀(parts:List (Nat×AV)) (cells:List AV) {out:List AV},kK place cells parts=some out→jO p cells→(∀x∈parts,Only p x.2)→jO p out
 |[],cells,out,h,hc,_=>by
  simp only[kK,Option.some.injEq] at h;subst h;exact hc
 |(i,v)::rest,cells,out,h,hc,hp=>by
  simp only[kK] at h;split at h
  ·cases h
  split at h
  ·refine EK rest _ h (iI.2 fun u hu=>?_) fun x hx=>hp x (ze _ hx)
   rcases zA.1 hu with hu|hu
   ·rcases zA.1 hu with hu|hu
    ·exact iI.1 hc u (vO hu)
    ·exact iI.1 (Ol (hp _ zb)) u hu
   ·exact iI.1 hc u (List.mem_of_mem_drop hu)
  ·cases h
section
variable {P:Program} {T:bH} {call:aj} {w0:World} {Lg:Env} {W:AW} {wm:World} {N nf m mi dm mb s0:Nat} {ops:Array Oper} {t0 tf:TT} {l:List ME} {L:Nat→Bool} {ρ:Env} {a:Act} {w:World}
theorem afb {l:List ME}(h:l.Pairwise fun e e'=>e.hi≤e'.lo):∀{e e':ME},e∈l→e'∈l→e≠e'→∀b,IJ e.lo e.hi b→¬IJ e'.lo e'.hi b:=by
 induction h with
 |nil=>intro e e' h;cases h
 |cons hx _ ih=>
  intro e e' he he' hne b h1 h2;rcases zQ.1 he with q1|q1<;>rcases zQ.1 he' with q2|q2
  ·exact hne (q1.trans q2.symm)
  ·subst q1;have:=hx e' q2;exact absurd h2.1 (by have:=h1.2;omega)
  ·subst q2;have:=hx e q1;exact absurd h1.1 (by have:=h2.2;omega)
  ·exact ih q1 q2 hne b h1 h2
theorem IC (hr:∀e∈l,W.nx≤e.lo)(hd:l.Pairwise fun e e'=>e.hi≤e'.lo)(_hap:Apart l){e:ME}(he:e∈l)(hL:L e.i=false){b:Nat}(h:gG W.nx l L b):¬IJ e.lo e.hi b:=by
 rcases h with h|⟨e',he',hL',h'⟩
 ·intro h1;have:=hr e he;have:=h1.1;omega
 ·refine afb hd he' he (fun h0=>?_) b h'
  subst h0;rw[hL] at hL';cases hL'
theorem kN.next (h:kN w0 Lg W wm N nf t0 l mi mb L ρ a w)(hr:∀e∈l,W.nx≤e.lo∧e.hi≤nf)(hd:l.Pairwise fun e e'=>e.hi≤e'.lo)(hap:Apart l)(ht0:∀i,(dZ i t0).ok W.nx)(hins:∀e∈l,mJ N e.d=true){e:ME}(he:e∈l)(hL:L e.i=false){dC:Env}{w2:World}
 (hS:Same (fun b=>¬IJ e.lo e.hi b) ρ dC) (aqN:∀b,IJ e.lo e.hi b→wm.heap.size≤dC.blk b) (hg:Gr wm w2 (fun _=>False)) (hrep:aJ w0 dC (WL W l mi mb nf (plus L e.i)) w2) (hv:e.v.ok nf) (am5:ab0 W.nx nf l (plus L e.i) e) (hnone:plus L e.i mi=false→e.en=Option.none):
 kN w0 Lg W wm N nf t0 l mi mb (plus L e.i) dC (a.put e.d (cv dC e.v)) w2:=by
 have hoff:∀b,b < W.nx→¬IJ e.lo e.hi b:=fun b hb h1=>by
  have:=(hr e he).1;have:=h1.1;omega
 have J4:Ext W.nx ρ dC:=(hS.mono hoff).ext;have hal:Same (gG W.nx l L) ρ dC:=hS.mono fun b hb=>IC (fun e he=>(hr e he).1) hd hap he hL hb
 obtain⟨tL,ht,SK⟩:=h.Xx
 have hcv:∀i,cv dC (dZ i tL)=cv ρ (dZ i tL):=fun i=>by
  by_cases hex:∃e'∈l,L e'.i=true∧e'.d=some i
  ·obtain⟨e',he',hL',hd'⟩:=hex;rw[SK.yes e' he' hL' i hd'];exact uM hal _ (h.fine e' he' hL').val
  ·rw[SK.no i fun e' he' hL' hd'=>hex ⟨e',he',hL',hd'⟩]
   exact iV J4 _ (ht0 i)
 have hN:dZ N tL=dZ N t0:=SK.no N fun e' he' _ hd'=>by
  have:=hins e' he';rw[hd'] at this;have:=(ZK this).1;omega
 have ht2:aS dC nf N tL a:=⟨ht.size,fun i=>by rw[ht.get i,hcv i],ht.ok,by rw[ht.defers,hN,Ik J4 (ht0 N)]⟩
 refine⟨⟨fun b hb=>(J4.blk b hb).trans (h.ext.blk b hb),fun b hb=>(J4.cap b hb).trans (h.ext.cap b hb),fun b hb=>(J4.es b hb).trans (h.ext.es b hb)⟩,hg,hrep,fun b h1 h2=>?_,⟨_,ht2.put (hins e he) hv,SK.put hap he (hins e he)⟩,fun e' he' hL'=>?_,fun J3 e' he' hL'=>?_⟩
 ·by_cases hb:IJ e.lo e.hi b
  ·exact aqN b hb
  ·rw[hS.blk b hb];exact h.far b h1 h2
 ·by_cases hee:e.i=e'.i
  ·have:=hap.of he he' (.inl hee);subst this;exact am5
  ·rw[dI _ hee] at hL';exact (h.fine e' he' hL').plus
 ·by_cases hee:e.i=e'.i
  ·have:=hap.of he he' (.inl hee);subst this;exact hnone J3
  ·rw[dI _ hee] at hL';refine h.af9 ?_ e' he' hL'
   cases hq:L mi with
   |false=>rfl
   |true=>rw[qw hq] at J3;cases J3
end
theorem abr (p:Nat→Prop)(v:Value):Only p (avD v):=by
 have hl:∀l:List Value,jO p (l.map gX):=fun l=>iI.2 fun u hu=>by
  obtain⟨x,_,rfl⟩:=zX.1 hu;exact qK p x
 unfold avD;split
 ·exact fun b hb=>hl _ b (by simpa [gL] using hb)
 ·refine fun b hb=>(iI (p:=p)).2 (fun u hu=>?_) b (by simpa [gL] using hb)
  obtain⟨x,_,rfl⟩:=zX.1 hu;split
  ·exact fun b hb=>hl _ b (by simpa [gL] using hb)
  ·exact qK p _
 ·exact qK p _
theorem Gr.past {a b c:World}{g:Nat}(h:Gr a b (fun _=>False))(k:Gr b c (fun i=>g=i))(hg:a.heap.size≤g):Gr a c (fun _=>False):=
 ⟨k.os.trans h.os,k.tape.trans h.tape,k.output.trans h.output,zV h.size k.size,fun i hi _=>(k.block i (zZ hi h.size) (fun e=>zy)).trans (h.block i hi id)⟩
theorem G6 (k:Nat):∀{l:List Nat},l.Nodup→(l.map (k+·)).Nodup
 |[],_=>.nil
 |x::l,h=>by
  rw[yA] at h;rw[zO,yA];refine⟨fun hm=>?_,G6 k h.2⟩
  obtain⟨y,hy,hxy⟩:=zX.1 hm;have hxy:k+y=k+x:=hxy;have:y=x:=zy;subst this;exact h.1 hy
section
variable {P:Program} {T:bH} {call:aj} {w0:World} {Lg:Env} {W:AW} {wm:World} {N nf m mi dm mb s0:Nat} {ops:Array Oper} {t0 tf:TT} {l:List ME} {L:Nat→Bool} {ρ:Env} {a:Act} {w:World}
theorem kN.keep (h:kN w0 Lg W wm N nf t0 l mi mb L ρ a w)(hWm:aJ w0 Lg W wm)(hmap:L mi=true→gG W.nx l L mb){dC:Env}{w2:World}(hS:Same (gG W.nx l L) ρ dC)(hg:Gr w w2 (fun _=>False)):
 ∀b k,au b (WL W l mi mb nf L).bl=some k→gG W.nx l L b∧dC.blk b=ρ.blk b∧k.rep dC w2 b:=fun b k hb=>by
 have hrep:=h.rep.rep b k hb;obtain⟨_,_,_,hlt⟩:=h.rep.ok b k hb;have hw:=hg.block _ hlt id;rcases zA.1 (bf hb) with h1|h1
 ·cases hL:L mi with
  |false=>rw[hL] at h1;cases h1
  |true=>
   rw[hL] at h1;obtain⟨rfl,rfl⟩:=zm (zR.1 h1);have hal:=hmap hL;refine⟨hal,hS.blk _ hal,Yc hrep (hS.blk _ hal) hw fun x hx=>?_⟩
   obtain⟨e',he',hL',hen⟩:=EN hx;obtain⟨_,q2,_,q4⟩:=(h.fine e' he' hL').iZ x hen;exact⟨uM hS _ q2,uM hS _ q4⟩
 ·rcases zA.1 h1 with h1|h1
  ·obtain⟨e',he',hL',hx⟩:=Ou h1;obtain⟨hr,vs,ty,hk,ho⟩:=(h.fine e' he' hL').blo _ hx;have hk:k= .cells vs ty none:=hk;subst hk;have hal:∀c,IJ e'.lo e'.hi c→gG W.nx l L c:=fun c hc=>.inr ⟨e',he',hL',hc⟩
   exact⟨hal _ hr,hS.blk _ (hal _ hr),RZ hrep (hS.blk _ (hal _ hr)) hw (mU (hS.mono hal) _ ho)⟩
  ·have hk:=eP hWm.ng h1;obtain⟨q1,q2,_⟩:=hWm.ok b k hk;have he:Ext W.nx ρ dC:=(hS.mono fun c hc=>.inl hc).ext
   exact⟨.inl q1,he.blk b q1,aF.Aj hw he q1 q2 hrep⟩
theorem mid_step (hT:aZ P T)(hC:ai P call)(hWm:aJ w0 Lg W wm)(kE:Cf T call W ops N m W.nx t0 l tf nf)(hok:abO ops m l mi dm mb s0)(ht0:∀i,(dZ i t0).ok W.nx)(hins:∀e∈l,mJ N e.d=true)
 (h:kN w0 Lg W wm N nf t0 l mi mb L ρ a w) {e:ME} (he:e∈l) (hL:L e.i=false) {o:Oper} (ho:ops[e.i]? =some o) (Er:∀d∈dP o,(∃e'∈l,e'.i=d)→L d=true):
 Steps P a o w e.v (fun ρ' w'=>kN w0 Lg W wm N nf t0 l mi mb (plus L e.i) ρ' (a.put e.d (cv ρ' e.v)) w'):=by
 obtain⟨l1,l2,te,o',hl,hvt,ho',hgd,hdst,hd,htm,hmid⟩:=kE.at hok.apart he;rw[ho] at ho';obtain rfl:=zq ho';obtain⟨hnf,hrange,hdisj⟩:=kE.range;have hr:∀e∈l,W.nx≤e.lo∧e.hi≤nf:=fun e he=>⟨(hrange e he).1,(hrange e he).2.2⟩
 obtain⟨tL,htr,hv⟩:=h.Xx
 have hag:∀x,x∈o.op.operands.toList→ev tL x=ev te x:=fun x hx=>anN fun k hk=>by
  subst hk;by_cases hex:∃e'∈l,e'.d=some k
  ·obtain⟨e',he',FT⟩:=hex;obtain⟨h1,e2,he2,h2⟩:=hok.opers l1 e l2 hl o ho k hx e' he' FT;have ai0:e2∈l:=by rw[hl];exact xV _ he2
   obtain rfl:=hok.apart.of ai0 he' (.inl h2);rw[hv.yes e2 ai0 (Er _ h1 ⟨e2,ai0,rfl⟩) k FT,hvt.yes e2 he2 rfl k FT]
  ·rw[hv.no k fun e' he' _ FT=>hex ⟨e',he',FT⟩,hvt.no k fun e' he' _ FT=>hex ⟨e',by rw[hl];exact xV _ he',FT⟩]
 have hon:∀x,x∈o.op.operands.toList→Only (gG W.nx l L) (ev tL x):=fun x hx=>by
  cases x with
  |tmp k=>
   show Only _ (dZ k tL);by_cases hex:∃e'∈l,e'.d=some k
   ·obtain⟨e',he',FT⟩:=hex;have h1:=(hok.opers l1 e l2 hl o ho k hx e' he' FT).1;have hL':=Er _ h1 ⟨e',he',rfl⟩;rw[hv.yes e' he' hL' k FT];exact (h.fine e' he' hL').val
   ·rw[hv.no k fun e' he' _ FT=>hex ⟨e',he',FT⟩]
    exact (JE _ (ht0 k)).mono fun b hb=>.inl hb
  |const v=>exact abr _ v
  |global g=>exact fun b hb=>by simp[ev,gL] at hb
  |func f=>exact tX.2 ⟨jW _,jW _⟩
 obtain⟨em,hem,om,sm,J3,hmd,hmv,ZV,am0,hom,hmk⟩:=hok.one;have agx:L mi=true→gG W.nx l L mb:=fun hLm=>.inr ⟨em,hem,by rw[J3];exact hLm,by rw[ZV,am0];exact⟨zn _,zS _⟩⟩
 have hoff:∀b,gG W.nx l L b→¬IJ e.lo e.hi b:=fun b hb=>IC (fun e he=>(hr e he).1) hdisj hok.apart he hL hb
 have hbel:=h.rep.below
 have hnot:(∀s,o.op≠ .makeMap s none)→e.i≠mi:=fun h J3=>by
  rw[J3] at ho;rw[ho] at hom;obtain rfl:=zq hom;exact h sm hmk
 obtain⟨dst,op,type,pos,after,guard⟩:=o;dsimp only at hgd hdst hmid hag hon hnot;unfold rO at hmid;split at hmid
 ·
  rename_i s;have amZ:e.i=mi:=hok.makes e he _ ho s rfl;obtain rfl:=hok.apart.of hem he (.inl (J3.trans amZ.symm));simp only[Option.some.injEq,Prod.mk.injEq] at hmid;obtain⟨_,hen,hbl,_⟩:=hmid;have hen:=hen.symm;have hbl:=hbl.symm;have hS:=Env.upd_same ρ em.lo em.hi (fun _=>w.heap.size)
  have hRb:IJ em.lo em.hi mb:=by rw[ZV,am0];exact⟨zn _,zS _⟩
  have hblk:(ρ.upd em.lo em.hi (fun _=>w.heap.size)).blk mb=w.heap.size:=Env.IY ρ _ hRb
  have hga:=kF w (.map #[] 0)
  have am9:kT l L=[]:=by
   unfold kT;refine List.filterMap_eq_nil_iff.2 fun x hx=>?_
   cases hq:L x.i with
   |false=>rfl
   |true=>rw[h.af9 (by rw[← J3];exact hL) x hx hq];rfl
  refine .inl ⟨ρ.upd em.lo em.hi (fun _=>w.heap.size),w.alloc (.map #[] 0),.inl ?_,?_⟩
  ·rw[hmv];simp only[cv,hblk];simp[execOp,Instr.makeMap,newObj,nA]
  ·refine h.next hr hdisj hok.apart ht0 hins he hL hS (fun b hb=>?_) (h.gr.trans (hga.mono fun _ _ hf=>hf.elim)) ?_ ?_ ?_ (fun hq=>?_)
   ·rw[Env.IY ρ _ hb];exact h.gr.size
   ·have hkeep:=h.keep hWm agx (hS.mono hoff) hga;have:=aJ.more (new:=[(mb,.lS [])]) h.rep hga (fun b k hb=>(hkeep b k hb).2) zw (fun x hx k hb=>?_) (fun x hx=>?_) (fun x hx y hy _=>?_)
    ·have e1:WL W l mi mb nf (plus L em.i)=⟨nf,[(mb,.lS [])]++(cond (L mi) [(mb,.lS (kT l L))] []++(nP l L++W.bl)),W.az,W.gl⟩:=by
      unfold WL;rw[AY hok.apart he hen,Bd hok.apart he hbl,am9,amZ,iH,← J3,hL];rfl
     rw[e1];exact this
    ·obtain rfl:=zR.1 hx;exact hoff _ (hkeep _ k hb).1 hRb
    ·obtain rfl:=zR.1 hx;refine⟨?_,fun y hy=>(by cases hy),?_,?_,#[],0,?_,.nil,.nil⟩
     ·have:=(hr em hem).2;have:=hRb.2;show mb < nf;omega
     ·show _≤(ρ.upd em.lo em.hi (fun _=>w.heap.size)).blk mb
      rw[hblk];exact zn _
     ·show (ρ.upd em.lo em.hi (fun _=>w.heap.size)).blk mb < _
      rw[hblk];simp
     ·show (w.alloc (.map #[] 0)).heap[(ρ.upd em.lo em.hi (fun _=>w.heap.size)).blk mb]? =_
      rw[hblk];exact World.alloc_heap_new _ _
    ·rw[zR.1 hx,zR.1 hy]
   ·rw[hmv];have:=(hr em hem).2;have:=hRb.2;show mb < nf;omega
   ·refine⟨?_,fun x hx=>(by rw[hen] at hx;cases hx),fun x hx=>(by rw[hbl] at hx;cases hx)⟩
    rw[hmv];intro b hb;have:b=mb:=by simpa [gL] using hb
    subst this;exact .inr ⟨em,hem,iH _ _,hRb⟩
   ·exact hen
 ·
  rename_i c;split at hmid
  case h_2=>cases hmid
  case h_1 f anb=>
  split at hmid
  case h_2=>cases hmid
  case h_1 g fl fm hf=>
  unfold Cq at hmid
  cases Z0:gY (fl++c.args.toList.map (ev te)++fm) with
  |false=>rw[Z0] at hmid;cases hmid
  |true=>
  rw[Z0] at hmid;simp only[cond_true] at hmid;split at hmid
  case h_2=>cases hmid
  case h_1 v0 W' hcall=>
  split at hmid
  case h_2=>cases hmid
  case h_1 v' bl' hsv hsb=>
  simp only[Option.some.injEq,Prod.mk.injEq] at hmid;obtain⟨rfl,hen,rfl,hhi⟩:=hmid;have hen:=hen.symm;have hne:=hnot fun s hq=>by cases hq
  obtain⟨callee,args,ats⟩:=c;dsimp only at anb;subst anb;have hfo:f∈(Op.call { callee:=.value f,args:=args,argTypes:=ats}).operands.toList:=by simp[Op.operands,Call.operands]
  have hao:∀x∈args.toList,x∈(Op.call { callee:=.value f,args:=args,argTypes:=ats}).operands.toList:=fun x hx=>by simp[Op.operands,Call.operands];exact .inr (by simpa using hx)
  have hf':ev tL f= .fn (.func g) fl fm:=(hag f hfo).trans hf;have hargs:args.toList.map (ev tL)=args.toList.map (ev te):=yt fun x hx=>hag x (hao x hx)
  obtain⟨⟨fn,q1,q2,q3⟩,_,ai2⟩:=hC _ _ _ _ _ hcall;have hW0:aJ w ρ ⟨0,[],[],W.gl⟩ w:=⟨⟨rfl,rfl,rfl,zn _,fun _ _=>rfl⟩,fun b k hb=>(by cases hb),fun b b' k k' hb=>(by cases hb),fun b k hb=>(by cases hb),.nil,h.rep.QC⟩
  refine .inr ⟨g,(aH ρ (fl++args.toList.map (ev te)++fm)).toArray,?_,(ai2 w ρ w (iT 0 _ Z0) hW0).mono ?_⟩
  ·have hb:fn.body.isNone=false:=by cases hq:fn.body<;>simp_all
   rw[EY htr hf',hargs];simp only[callFunc,Sem.run_bind,Sem.run_pure,Result.andThen_ok,run_program,q1,q2,hb,Bool.false_eq_true,if_false]
  ·rintro en w' ⟨ρ',rfl,hp,Ca⟩;have hga:Gr w w' (fun _=>False):=hp.gr.mono fun i _ ⟨b,_,hb,_⟩=>absurd hb (yf _)
   have hS:=Env.upd_same ρ e.lo e.hi ρ'.blk;have hRl:∀b,b < W'.nx→IJ e.lo e.hi (e.lo+b):=fun b hb=>⟨zy,zy⟩
   have hbl:∀b,b < W'.nx→(ρ.upd e.lo e.hi ρ'.blk).blk (e.lo+b)=ρ'.blk b:=fun b hb=>by
    rw[Env.IY ρ _ (hRl b hb),xJ]
   obtain⟨hv1,hv2,hv3⟩:=Mc v0 hsv Ca;rw[hhi] at hv1 hv2;obtain⟨hk1,hk2⟩:=Ma W'.bl hsb
   have hfresh:∀b,b < W'.nx→w.heap.size≤ρ'.blk b:=fun b hb=>by
    rcases zP (ρ'.blk b) w.heap.size with hlt|hge
    ·obtain⟨c,_,hc,_⟩:=hp.fresh b (zF _) hb hlt;exact absurd hc (yf _)
    ·exact hge
   have hnew:∀x∈e.bl,∃b vs ty vs',b < W'.nx∧au b W'.bl=some (.cells vs ty none)∧oks W'.nx vs∧x=(e.lo+b,.cells vs' ty none)∧shL e.lo vs=some vs':=fun x hx=>by
    obtain⟨b,vs,ty,vs',h1,h2,h3⟩:=hk2 x hx;have hg:=eP hp.rep.ng h1;obtain⟨p1,p2,_⟩:=hp.rep.ok b _ hg;exact⟨b,vs,ty,vs',p1,hg,p2,h2,h3⟩
   refine⟨ρ.upd e.lo e.hi ρ'.blk,?_,h.next hr hdisj hok.apart ht0 hins he hL hS (fun b hb=>?_) (h.gr.trans (hga.mono fun _ _ hf=>hf.elim)) ?_ ?_ ⟨?_,fun x hx=>(by rw[hen] at hx;cases hx),fun x hx=>?_⟩ fun _=>hen⟩
   ·rw[hv3 ρ' _ hbl]
   ·rw[Env.IY ρ _ hb];exact zV h.gr.size (hfresh _ (by have:=hb.1;have:=hb.2;omega))
   ·have hkeep:=h.keep hWm agx (hS.mono hoff) hga;have:=aJ.more (new:=e.bl) h.rep hga (fun b k hb=>(hkeep b k hb).2) (by rw[hk1];exact G6 _ hp.rep.ng) (fun x hx k hb=>?_) (fun x hx=>?_) (fun x hx y hy hxy=>?_)
    ·unfold WL;rw[AY hok.apart he hen,dI _ hne];refine this.perm ?_;rw[← yc];refine .trans (List.perm_append_comm.append_right _) ?_;rw[yc];refine .append_left _ ?_;rw[← yc];exact (Wu hok.apart he hL).append_right _
    ·obtain⟨b,_,_,_,h1,_,_,rfl,_⟩:=hnew x hx;exact hoff _ (hkeep _ k hb).1 (hRl b h1)
    ·obtain⟨b,vs,ty,vs',h1,h2,h3,rfl,h4⟩:=hnew x hx;obtain⟨p1,p2,p3,p4⟩:=hp.rep.ok b _ h2;obtain⟨s1,s2,s3⟩:=ma vs h4 h3;have:=(hr e he).2;refine⟨?_,oks.mono zy _ s1,?_,?_,RZ (hp.rep.rep b _ h2) (hbl b h1) rfl (s3 ρ' _ hbl)⟩
     ·show e.lo+b < nf;omega
     ·show _≤(ρ.upd e.lo e.hi ρ'.blk).blk (e.lo+b);rw[hbl b h1];exact p3
     ·show (ρ.upd e.lo e.hi ρ'.blk).blk (e.lo+b) < _;rw[hbl b h1];exact p4
    ·obtain⟨b,_,_,_,h1,h2,_,rfl,_⟩:=hnew x hx;obtain⟨b',_,_,_,h1',h2',_,rfl,_⟩:=hnew y hy;have hxy:(ρ.upd e.lo e.hi ρ'.blk).blk (e.lo+b)=(ρ.upd e.lo e.hi ρ'.blk).blk (e.lo+b'):=hxy;rw[hbl b h1,hbl b' h1'] at hxy;rw[hp.rep.inj b b' _ _ h2 h2' hxy]
   ·exact AV.ok.mono (hr e he).2 _ hv1
   ·exact hv2.mono fun b hb=>.inr ⟨e,he,iH _ _,hb⟩
   ·obtain⟨b,vs,ty,vs',h1,h2,h3,rfl,h4⟩:=hnew x hx;obtain⟨s1,s2,s3⟩:=ma vs h4 h3;rw[hhi] at s2;exact⟨hRl b h1,vs',ty,rfl,s2⟩
 ·
  rename_i s parts;split at hmid
  case h_2=>cases hmid
  case h_1 i hi=>
  split at hmid
  case h_2=>cases hmid
  case h_1 fs hk=>
  split at hmid
  case h_2=>cases hmid
  case h_1 out hout=>
  simp only[Option.some.injEq,Prod.mk.injEq] at hmid;obtain⟨hval,hen,hbl,hhi⟩:=hmid;have hne:=hnot fun s hq=>by cases hq
  have hpo:∀p∈parts.toList,p.2∈(Op.build s parts).operands.toList:=fun p hp=>by simp[Op.operands];exact⟨p.1,by simpa using hp⟩
  have hparts:(parts.toList.map fun p=>(p.1,ev te p.2))=parts.toList.map fun p=>(p.1,ev tL p.2):=yt fun p hp=>by rw[hag p.2 (hpo p hp)]
  rw[hparts] at hout;have hok':(AV.agg out).ok nf:=mR _ _ hout (iq _ _) (oZ htr parts)
  have ZR:Only (gG W.nx l L) (.agg out):=fun b hb=>(EK _ _ hout (iI.2 fun u hu=>by
   obtain⟨x,_,rfl⟩:=zX.1 hu;exact qK _ x) fun x hx=>by
   obtain⟨p,hp,rfl⟩:=zX.1 hx;exact hon p.2 (hpo p hp)) b (by simpa [gL] using hb)
  have hgw:Gr w w (fun _=>False):=Gr.refl _ _
  refine .inl ⟨ρ,w,.inl ?_,?_⟩
  ·rw[← hval];exact Wt hT htr hi hk hout w
  ·have hS:Same (fun b=>¬IJ e.lo e.hi b) ρ ρ:=⟨fun _ _=>rfl,fun _ _=>rfl,rfl⟩
   refine h.next hr hdisj hok.apart ht0 hins he hL hS (fun b hb=>?_) h.gr ?_ (by rw[← hval];exact hok') ⟨by rw[← hval];exact ZR.mono fun _=>gG.plus,fun x hx=>(by rw[← hen] at hx;cases hx),fun x hx=>(by rw[← hbl] at hx;cases hx)⟩ fun _=>hen.symm
   ·have:=hb.1;have:=hb.2;omega
   ·have e1:WL W l mi mb nf (plus L e.i)=WL W l mi mb nf L:=by
     unfold WL;rw[AY hok.apart he hen.symm,Bd hok.apart he hbl.symm,dI _ hne]
    rw[e1];exact h.rep
 ·
  rename_i s mm k x;split at hmid
  case h_2=>cases hmid
  case h_1 i hi=>
  split at hmid
  case h_2=>cases hmid
  case h_1 kt et hkd=>
  split at hmid
  case h_2=>cases hmid
  case h_1 ik hik=>
  cases hko:keyOf ik.kd (ev te k) with
  |false=>rw[hko] at hmid;cases hmid
  |true=>
  rw[hko] at hmid;simp only[cond_true,Option.some.injEq,Prod.mk.injEq] at hmid;obtain⟨hval,hen,hbl,hhi⟩:=hmid;have hne:=hnot fun s hq=>by cases hq
  obtain⟨rfl,rfl,hdm⟩:=hok.ins e he _ ho s mm k x rfl;have hLm:L mi=true:=Er mi hdm ⟨em,hem,J3⟩;have aiY:k∈(Op.insert s (.tmp dm) k x).operands.toList:=by simp[Op.operands]
  have aiO:x∈(Op.insert s (.tmp dm) k x).operands.toList:=by simp[Op.operands]
  have hmt:ev tL (.tmp dm)= .map mb:=(hv.yes em hem (by rw[J3];exact hLm) dm hmd).trans hmv
  have SL:=h.rep
  have eW:WL W l mi mb nf L=⟨nf,(mb,.lS (kT l L))::(nP l L++W.bl),W.az,W.gl⟩:=by
   unfold WL;rw[hLm];rfl
  rw[eW] at SL;have hgm:au mb ((mb,aF.lS (kT l L))::(nP l L++W.bl))=some (.lS (kT l L)):=aA _ _ _;obtain⟨p1,p2,p3,p4⟩:=SL.ok mb _ hgm
  have hall:∀y∈kT l L,keyOf ik.kd y.1=true:=fun y hy=>by
   obtain⟨e',he',hL',hy'⟩:=EN hy;obtain⟨_,_,te',o2,_,_,ho2,_,_,_,_,fI⟩:=kE.at hok.apart he';rw[hy'] at fI;obtain⟨avd,op2,type2,aus,arA,arc⟩:=o2;dsimp only at fI;unfold rO at fI;split at fI
   ·simp at fI
   ·split at fI
    ·split at fI
     ·unfold Cq at fI;rename_i g fl fm _;generalize gY (fl++_++fm)=b at fI
      cases b with
      |false=>cases fI
      |true=>
       simp only[cond_true] at fI
       repeat' split at fI
       all_goals first
        |(simp at fI;done)
        |cases fI
     ·cases fI
    ·cases fI
   ·repeat' split at fI
    all_goals first
     |(simp at fI;done)
     |cases fI
   ·have hs:=(hok.ins e' he' _ ho2 _ _ _ _ rfl).1;rw[hs,hi] at fI;simp only[hkd,hik] at fI;generalize aqJ:keyOf ik.kd (ev te' _)=ko2 at fI
    cases ko2 with
    |false=>cases fI
    |true=>
     simp only[cond_true,Option.some.injEq,Prod.mk.injEq] at fI;obtain⟨_,hq,_⟩:=fI;rw[← hq];exact aqJ
   ·cases fI
  have hno:∀y∈kT l L,cv ρ y.1≠cv ρ (ev te k):=fun y hy=>by
   obtain⟨e',he',hL',hy'⟩:=EN hy;have hee:e'≠e:=fun h0=>by subst h0;rw[hL] at hL';cases hL'
   exact aep hok.keys ρ he' he hee hy' hen.symm
  obtain⟨w',hrun,hgw,amL⟩:=ZH (P:=P) hT hi hkd hik hko hall hno (SL.rep mb _ hgm) p4 (Ih hok.apart he hL hen.symm);have aqE:W.nx≤mb:=by rw[← ZV];exact (hr em hem).1
  have aqF:mb < nf:=p1;have hgf:Gr wm w' (fun _=>False):=h.gr.past hgw (h.far mb aqE aqF)
  have hxo:((ev te k).ok nf∧Only (gG W.nx l L) (ev te k))∧(ev te x).ok nf∧Only (gG W.nx l L) (ev te x):=by
   rw[← hag k aiY,← hag x aiO];exact⟨⟨htr.fQ k,hon k aiY⟩,htr.fQ x,hon x aiO⟩
  refine .inl ⟨ρ,w',.inr ⟨?_,hval.symm⟩,?_⟩
  ·have hrun':=hrun;rw[← hag k aiY,← hag x aiO] at hrun';simp only[execOp,htr.eval,hmt,Sem.run_bind,cv,hrun',Result.andThen_ok,Sem.run_pure]
  ·have hS:Same (fun b=>¬IJ e.lo e.hi b) ρ ρ:=⟨fun _ _=>rfl,fun _ _=>rfl,rfl⟩
   refine h.next hr hdisj hok.apart ht0 hins he hL hS (fun b hb=>?_) hgf ?_ (by rw[← hval];trivial) ⟨by rw[← hval];exact fun b hb=>by simp[gL,Eg] at hb,fun y hy=>?_,fun y hy=>(by rw[← hbl] at hy;cases hy)⟩ fun hq=>?_
   ·have:=hb.1;have:=hb.2;omega
   ·have e1:WL W l mi mb nf (plus L e.i)=⟨nf,(mb,.lS (kT l (plus L e.i)))::(nP l L++W.bl),W.az,W.gl⟩:=by
     unfold WL;rw[Bd hok.apart he hbl.symm,qw hLm];rfl
    rw[e1];refine SL.head hgw (fun y hy=>?_) amL
    rcases zA.1 ((Ih hok.apart he hL hen.symm).mem_iff.1 hy) with hy|hy
    ·exact p2 y hy
    ·obtain rfl:=zR.1 hy;exact⟨hxo.1.1,hxo.2.1⟩
   ·rw[← hen] at hy;obtain rfl:=zq hy;exact⟨hxo.1.1,hxo.1.2.mono fun _=>gG.plus,hxo.2.1,hxo.2.2.mono fun _=>gG.plus⟩
   ·rw[qw hLm] at hq;cases hq
 ·cases hmid
end
def lK (m:Nat):List ME→Nat
 |[]=>m
 |e::l=>lK (dH m e.i) l
theorem Gq (j:Nat):∀(l:List ME) (m:Nat),tb (lK m l) j=true↔tb m j=true∨∃e∈l,e.i=j
 |[],m=>by simp[lK]
 |e::l,m=>by
  rw[lK,Gq j l,fO];simp only[Bool.or_eq_true,decide_eq_true_eq,List.mem_cons,exists_eq_or_imp];exact⟨fun h=>h.elim (fun h=>h.elim (fun h=>.inr (.inl h)) .inl) (fun h=>.inr (.inr h)),fun h=>h.elim (fun h=>.inl (.inr h)) (fun h=>h.elim (fun h=>.inl (.inl h)) .inr)⟩
theorem ahm {a b:Nat}(h:∀j,tb a j=true↔tb b j=true):a=b:=xA fun j=>by
 rw[← sH,← sH,yX];exact h j
def left (l:List ME)(L:Nat→Bool):Nat:=(l.filter fun e=>!L e.i).length
theorem Vz {l:List ME}(hap:Apart l){L:Nat→Bool}{e:ME}(he:e∈l)(hL:L e.i=false):left l L=left l (plus L e.i)+1:=by
 unfold left
 induction l with
 |nil=>cases he
 |cons y l ih=>
  have ND:Apart l:=(yT.1 hap).2;rcases zQ.1 he with rfl|he'
  ·have hrest:(l.filter fun e'=>!plus L e.i e'.i)=l.filter fun e'=>!L e'.i:=List.filter_congr fun z hz=>by
    rw[dI _ ((yT.1 hap).1 z hz).1]
   simp[hrest,hL,iH]
  ·have hne:e.i≠y.i:=fun h=>((yT.1 hap).1 e he').1 h.symm
   have ih:=ih ND he';rw[List.filter_cons,List.filter_cons,dI _ hne];split
   ·simp[ih]
   ·exact ih
theorem Vy {l:List ME}{L:Nat→Bool}(h:left l L=0):∀e∈l,L e.i=true:=fun e he=>by
 unfold left at h;have:=yQ h
 cases hL:L e.i with
 |true=>rfl
 |false=>
  have:e∈l.filter fun e=>!L e.i:=xQ.2 ⟨he,by rw[hL];rfl⟩
  rw[yQ h] at this
  cases this
theorem D8 {L:Nat→Bool}:∀{l:List ME},left l L≠0→∃l1 e l2,l=l1++e::l2∧(∀e'∈l1,L e'.i=true)∧L e.i=false
 |[],h=>absurd rfl h
 |x::l,h=>by
  cases hx:L x.i with
  |false=>exact⟨[],x,l,rfl,fun e' he'=>(by cases he'),hx⟩
  |true=>
   have h':left l L≠0:=by
    unfold left at h ⊢;rw[List.filter_cons,hx] at h;exact h
   obtain⟨l1,e,l2,h1,h2,h3⟩:=D8 h';refine⟨x::l1,e,l2,by rw[h1];rfl,fun e' he'=>?_,h3⟩
   rcases zQ.1 he' with rfl|he'
   ·exact hx
   ·exact h2 e' he'
theorem GM {ops:Array Oper}{listed:Array Bool}{m:Nat}(h:RelB ops.size listed m)(i:Nat):i∈Region.ready .any ops listed↔∃o,ops[i]? =some o∧tb m i=false∧∀d∈dP o,tb m d=true:=by
 rw[← jV h];constructor
 ·intro hi;obtain⟨x,hx,rfl⟩:=zX.1 hi;obtain⟨h1,h2⟩:=Nv hx;have ho:ops[x.1]? =some ops[x.1]:=xN h2;refine⟨_,ho,?_⟩;have hc:=(xQ.1 hx).2;rw[h1] at hc;simp only[infoAt,ho] at hc
  cases hm:tb m x.1 with
  |true=>rw[hm] at hc;cases hc
  |false=>
   rw[hm] at hc;refine⟨rfl,fun d hd=>?_⟩
   have hc:KR m (dP ops[x.1])=true:=hc;rw[lJ,zY] at hc;exact hc d hd
 ·rintro ⟨o,ho,hm,hd⟩;have hlt:i < ops.size:=(zT.1 ho).1;refine zX.2 ⟨infoAt ops i,xQ.2 ⟨zX.2 ⟨i,yS.2 hlt,rfl⟩,?_⟩,rfl⟩;show cond (tb m i) false (KR m (infoAt ops i).2.1)=true;rw[hm];simp only[infoAt,ho,cond_false,lJ,List.all_eq_true];exact hd
section
variable {P:Program} {T:bH} {call ext:aj} {w0:World} {Lg:Env} {W:AW} {wm:World} {N nf m mi dm mb s0 z:Nat} {ops:Array Oper} {t0 tf:TT} {l:List ME}
theorem Y0 (hT:aZ P T)(hC:ai P call)(hWm:aJ w0 Lg W wm)(kE:Cf T call W ops N m W.nx t0 l tf nf)(hok:abO ops m l mi dm mb s0)(ht0:∀i,(dZ i t0).ok W.nx)(hins:∀e∈l,mJ N e.d=true)(hnd:∀(j:Nat) (o:Oper),ops[j]? =some o→∀c,o.op≠ .defer c){rb:Option Nat}{Q:Act→World→Prop}{S:World→Prop}
 (hst:∀L ρ a w,kN w0 Lg W wm N nf t0 l mi mb L ρ a w→S w) {n:Nat}
 (hfin:∀listed L ρ a w,RelB ops.size listed (lK m l)→(∀e∈l,L e.i=true)→kN w0 Lg W wm N nf t0 l mi mb L ρ a w→bD P .any ops (qa Q) S z rb n listed a w):
 ∀(k:Nat) {listed:Array Bool} {mm:Nat} {L:Nat→Bool} {ρ:Env} {a:Act} {w:World},left l L=k→RelB ops.size listed mm→(∀j,tb mm j=true↔tb m j=true∨∃e∈l,e.i=j∧L j=true)→kN w0 Lg W wm N nf t0 l mi mb L ρ a w→
  bD P .any ops (qa Q) S z rb (n+k) listed a w
 |0,listed,mm,L,ρ,a,w,hk,hrl,hmm,h=>by
  have hall:=Vy hk
  have:mm=lK m l:=ahm fun j=>by
   rw[hmm,Gq];exact⟨fun h=>h.imp_right fun ⟨e,he,h1,_⟩=>⟨e,he,h1⟩,fun h=>h.imp_right fun ⟨e,he,h1⟩=>⟨e,he,h1,by rw[← h1];exact hall e he⟩⟩
  subst this;exact hfin listed L ρ a w hrl hall h
 |k+1,listed,mm,L,ρ,a,w,hk,hrl,hmm,h=>by
  obtain⟨l1,e0,l2,hl,hl1,hL0⟩:=D8 (l:=l) (L:=L) zy;have he0:e0∈l:=by rw[hl];exact xC _ zb
  have hnl:∀e∈l,L e.i=false→tb mm e.i=false:=fun e he hLe=>by
   cases hq:tb mm e.i with
   |false=>rfl
   |true=>
    obtain⟨_,_,_,_,_,_,_,_,_,_,hm,_⟩:=kE.at hok.apart he;rcases (hmm _).1 hq with h1|⟨e',he',h1,h2⟩
    ·rw[hm] at h1;cases h1
    ·rw[hLe] at h2;cases h2
  obtain⟨_,_,_,o0,_,_,ho0,_,_,_,hm0,_⟩:=kE.at hok.apart he0
  have Eh:e0.i∈Region.ready .any ops listed:=(GM hrl _).2 ⟨o0,ho0,hnl e0 he0 hL0,fun d hd=>(hmm d).2 (by
   rcases hok.first l1 e0 l2 hl o0 ho0 d hd with h1|⟨e',he',h1⟩
   ·exact .inl h1
   ·exact .inr ⟨e',by rw[hl];exact xV _ he',h1,by rw[← h1];exact hl1 e' he'⟩)⟩
  rw[← wz];refine dG rfl (fun h0=>by rw[h0] at Eh;cases Eh) fun i hi=>?_
  obtain⟨o,ho,J3,Er⟩:=(GM hrl i).1 hi
  have htm:tb m i=false:=by
   cases hq:tb m i with
   |false=>rfl
   |true=>rw[(hmm i).2 (.inl hq)] at J3;cases J3
  have hex:∃e∈l,e.i=i:=by
   refine xy fun hno=>?_
   rcases hok.others i o ho htm fun e he h1=>hno ⟨e,he,h1⟩ with⟨d,hd,h1,h2⟩|h1
   ·rcases (hmm d).1 (Er d hd) with h3|⟨e,he,h3,_⟩
    ·rw[h1] at h3;cases h3
    ·exact h2 e he h3
   ·have:=Er _ (h1 e0 he0);rw[hnl e0 he0 hL0] at this
    cases this
  obtain⟨e,he,rfl⟩:=hex
  have hL:L e.i=false:=by
   cases hq:L e.i with
   |false=>rfl
   |true=>rw[(hmm e.i).2 (.inr ⟨e,he,rfl,hq⟩)] at J3;cases J3
  obtain⟨_,_,_,o',_,_,ho',hg,hdst,hd,_,_⟩:=kE.at hok.apart he;rw[ho] at ho';obtain rfl:=zq ho'
  have hstep:=mid_step hT hC hWm kE hok ht0 hins h he hL ho fun d hd ⟨e',he',h1⟩=>by
   rcases (hmm d).1 (Er d hd) with h2|⟨_,_,_,h2⟩
   ·obtain⟨_,_,_,_,_,_,_,_,_,_,hm,_⟩:=kE.at hok.apart he';rw[h1,h2] at hm;cases hm
   ·exact h2
  have hlt:e.i < ops.size:=(zT.1 ho).1;unfold wpOpIn;simp only[ho]
  have hw:Region.wanted o (yielded ops a.tmps)=true:=by
   unfold Region.wanted;rw[hg]
  rw[zW hw];refine Steps.wpIn hstep (hnd _ _ ho) fun ρ' w' h'=>?_
  rw[hdst];refine⟨fun _=>hst _ _ _ _ h',?_⟩
  refine Y0 hT hC hWm kE hok ht0 hins hnd hst hfin k ?_ (hrl.set hlt) (fun j=>?_) h'
  ·have:=Vz hok.apart he hL;omega
  ·rw[fO];simp only[Bool.or_eq_true,decide_eq_true_eq,hmm];constructor
   ·rintro (rfl|h1|⟨e',he',h1,h2⟩)
    ·exact .inr ⟨e,he,rfl,iH _ _⟩
    ·exact .inl h1
    ·exact .inr ⟨e',he',h1,qw h2⟩
   ·rintro (h1|⟨e',he',h1,h2⟩)
    ·exact .inr (.inl h1)
    ·simp only[plus,Bool.or_eq_true,decide_eq_true_eq] at h2;rcases h2 with h2|h2
     ·exact .inl h2
     ·exact .inr (.inr ⟨e',he',h1,h2⟩)
end
def MF (f:ME→ME→Bool):List ME→Bool
 |[]=>true
 |e::l=>cond (l.all (f e)) (MF f l) false
theorem Dz {f:ME→ME→Bool}:∀{l:List ME},MF f l=true→l.Pairwise fun e e'=>f e e'=true
 |[],_=>.nil
 |e::l,h=>by
  unfold MF at h
  cases hq:l.all (f e) with
  |false=>rw[hq] at h;cases h
  |true=>
   rw[hq] at h;exact .cons (fun e' he'=>zY.1 hq e' he') (Dz h)
def kS (d:Option Nat)(k:Nat):Bool:=match d with|some j=>Nat.beq j k|none=>false
theorem JS {d:Option Nat}{k:Nat}:kS d k=true↔d=some k:=by
 cases d with
 |none=>simp[kS]
 |some j=>simp[kS]
def aeX (e e':ME):Bool:=
 cond (Nat.blt e.i e'.i) (cond (match e.d with|some k=>kS e'.d k|none=>false) false (match e.en,e'.en with
  |some x,some y=>(match mH x.1 y.1 with|some false=>true|_=>false)
  |_,_=>true)) false
theorem VV {e e':ME}(h:aeX e e'=true):e.i < e'.i∧(∀k,e.d=some k→e'.d≠some k)∧∀x y,e.en=some x→e'.en=some y→mH x.1 y.1=some false:=by
 unfold aeX at h
 cases h1:Nat.blt e.i e'.i with
 |false=>rw[h1] at h;cases h
 |true=>
  rw[h1] at h;simp only[cond_true] at h;generalize hq:(match e.d with|some k=>kS e'.d k|none=>false)=q at h
  cases q with
  |true=>cases h
  |false=>
   simp only[cond_false] at h;refine⟨aK h1,fun k hk hk'=>?_,fun x y hx hy=>?_⟩
   ·rw[hk] at hq;have:kS e'.d k=true:=JS.2 hk';have hq:kS e'.d k=false:=hq;rw[this] at hq;cases hq
   ·rw[hx,hy] at h;simp only at h;split at h
    ·assumption
    ·cases h
def ZE (x:Operand)(k:Nat):Bool:=match x with | .tmp j=>Nat.beq j k|_=>false
def elB (ops:Array Oper)(m:Nat)(l:List ME)(mi dm s0:Nat)(e:ME):Bool:=match ops[e.i]? with
 |some o=>
  cond (cond (uo o.op) (Nat.beq e.i mi) true)
  (cond (match o.op with | .insert s mm _ _=>cond (Nat.beq s s0) (cond (ZE mm dm) (iN mi (dP o)) false) false|_=>true)
  (cond (o.op.operands.toList.all fun x=>match x with | .tmp k=>l.all fun e'=>cond (kS e'.d k) (cond (iN e'.i (dP o)) (Nat.blt e'.i e.i) false) true|_=>true)
    ((dP o).all fun d=>cond (tb m d) true (cond (Nat.blt d e.i) (l.any fun e'=>Nat.beq e'.i d) false)) false) false) false
 |none=>true
def ah9 (ops:Array Oper)(mi dm mb:Nat)(e:ME):Bool:=
 cond (Nat.beq e.i mi) (cond (kS e.d dm) (cond (Nat.beq e.lo mb) (cond (Nat.beq e.hi (mb+1)) (cond (match e.v with | .map b=>Nat.beq b mb|_=>false) (match ops[mi]? with|some o=>uo o.op|none=>false) false) false) false) false) false
def af0 (m:Nat)(l:List ME)(x:Nat×List Nat×List Nat):Bool:=
 cond (tb m x.1) true (cond (l.any fun e=>Nat.beq e.i x.1) true
  (cond (x.2.1.any fun d=>cond (tb m d) false (!(l.any fun e=>Nat.beq e.i d))) true (l.all fun e=>iN e.i x.2.1)))
def Y1 (ops:Array Oper)(info:Info)(m:Nat)(l:List ME)(mi dm mb s0:Nat):Bool:=
 cond (MF aeX l) (cond (l.any (ah9 ops mi dm mb)) (cond (l.all (elB ops m l mi dm s0)) (info.all (af0 m l)) false) false) false
theorem anyI {l:List ME}{i:Nat}:(l.any fun e=>Nat.beq e.i i)=true↔∃e∈l,e.i=i:=by
 simp[List.any_eq_true]
theorem ad1 {ops:Array Oper}{m:Nat}{l:List ME}{mi dm mb s0:Nat}(h:Y1 ops (cu ops) m l mi dm mb s0=true):abO ops m l mi dm mb s0:=by
 unfold Y1 at h
 cases h1:MF aeX l with
 |false=>rw[h1] at h;cases h
 |true=>
 rw[h1] at h
 cases h2:l.any (ah9 ops mi dm mb) with
 |false=>rw[h2] at h;cases h
 |true=>
 rw[h2] at h
 cases h3:l.all (elB ops m l mi dm s0) with
 |false=>rw[h3] at h;cases h
 |true=>
 rw[h3] at h;simp only[cond_true] at h;have hp:=(Dz h1).imp fun h=>VV h
 have hel:=zY.1 h3;have hre:=zY.1 h
 have hE:∀e∈l,∀o,ops[e.i]? =some o→(uo o.op=true→e.i=mi)∧(∀s mm k x,o.op= .insert s mm k x→s=s0∧mm= .tmp dm∧mi∈dP o)∧(∀k,Operand.tmp k∈o.op.operands.toList→∀e'∈l,e'.d=some k→e'.i∈dP o∧e'.i < e.i)∧∀d∈dP o,tb m d=true∨(d < e.i∧∃e'∈l,e'.i=d):=fun e he o ho=>by
  have hx:=hel e he;unfold elB at hx;rw[ho] at hx;simp only at hx;generalize q1:(cond (uo o.op) (Nat.beq e.i mi) true)=b1 at hx
  cases b1 with
  |false=>cases hx
  |true=>
  simp only[cond_true] at hx;generalize q2:(match o.op with | .insert s mm _ _=>cond (Nat.beq s s0) (cond (ZE mm dm) (iN mi (dP o)) false) false|_=>true)=b2 at hx
  cases b2 with
  |false=>cases hx
  |true=>
  simp only[cond_true] at hx;generalize q3:(o.op.operands.toList.all fun x=>match x with | .tmp k=>l.all fun e'=>cond (kS e'.d k) (cond (iN e'.i (dP o)) (Nat.blt e'.i e.i) false) true|_=>true)=b3 at hx
  cases b3 with
  |false=>cases hx
  |true=>
  simp only[cond_true] at hx;refine⟨fun hm=>?_,fun s mm k x hop=>?_,fun k hk e' he' hd=>?_,fun d hd=>?_⟩
  ·rw[hm] at q1;exact (beq_iff _ _).1 q1
  ·rw[hop] at q2;simp only at q2
   cases p1:Nat.beq s s0 with
   |false=>rw[p1] at q2;cases q2
   |true=>
   rw[p1] at q2
   cases p2:ZE mm dm with
   |false=>rw[p2] at q2;cases q2
   |true=>
   rw[p2] at q2;refine⟨(beq_iff _ _).1 p1,?_,jy q2⟩
   cases mm with
   |tmp j=>rw[(beq_iff _ _).1 p2]
   |_=>cases p2
  ·have:=zY.1 q3 _ hk;simp only at this;have:=zY.1 this e' he';rw[JS.2 hd] at this;simp only[cond_true] at this
   cases p1:iN e'.i (dP o) with
   |false=>rw[p1] at this;cases this
   |true=>
    rw[p1] at this;exact⟨jy p1,aK this⟩
  ·have:=zY.1 hx d hd
   cases p1:tb m d with
   |true=>exact .inl rfl
   |false=>
    rw[p1] at this;simp only[cond_false] at this
    cases p2:Nat.blt d e.i with
    |false=>rw[p2] at this;cases this
    |true=>
     rw[p2] at this;exact .inr ⟨aK p2,anyI.1 this⟩
 have SS:∀l1 e l2,l=l1++e::l2→∀e'∈l,e'.i < e.i→e'∈l1:=fun l1 e l2 hl e' he' hlt=>by
  rw[hl] at he' hp;rcases zA.1 he' with h1|h1
  ·exact h1
  ·rcases zQ.1 h1 with rfl|h1
   ·omega
   ·have:=(yT.1 (List.pairwise_append.1 hp).2.1).1 e' h1;omega
 refine⟨hp.imp fun h=>⟨zy,h.2.1⟩,?_,fun e he o ho s hop=>(hE e he o ho).1 (by rw[hop];rfl),fun e he o ho=>(hE e he o ho).2.1,fun l1 e l2 hl o ho k hk e' he' hd=>?_,hp.imp fun h=>h.2.2,fun l1 e l2 hl o ho d hd=>?_,fun j o ho htm hno=>?_⟩
 ·obtain⟨e,he,hx⟩:=xY.1 h2;unfold ah9 at hx
  cases p1:Nat.beq e.i mi with
  |false=>rw[p1] at hx;cases hx
  |true=>
  rw[p1] at hx
  cases p2:kS e.d dm with
  |false=>rw[p2] at hx;cases hx
  |true=>
  rw[p2] at hx
  cases p3:Nat.beq e.lo mb with
  |false=>rw[p3] at hx;cases hx
  |true=>
  rw[p3] at hx
  cases p4:Nat.beq e.hi (mb+1) with
  |false=>rw[p4] at hx;cases hx
  |true=>
  rw[p4] at hx;simp only[cond_true] at hx;generalize p5:(match e.v with | .map b=>Nat.beq b mb|_=>false)=b5 at hx
  cases b5 with
  |false=>cases hx
  |true=>
  simp only[cond_true] at hx
  cases ho:ops[mi]? with
  |none=>rw[ho] at hx;cases hx
  |some o=>
   rw[ho] at hx;have hx:uo o.op=true:=hx;unfold uo at hx;split at hx
   ·rename_i s hop;refine⟨e,he,o,s,(beq_iff _ _).1 p1,JS.1 p2,?_,(beq_iff _ _).1 p3,(beq_iff _ _).1 p4,rfl,hop⟩;split at p5
    ·rename_i b hv;rw[hv,(beq_iff _ _).1 p5]
    ·cases p5
   ·cases hx
 ·have he:e∈l:=by rw[hl];exact xC _ zb
  obtain⟨h1,h2⟩:=(hE e he o ho).2.2.1 k hk e' he' hd;exact⟨h1,e',SS l1 e l2 hl e' he' h2,rfl⟩
 ·have he:e∈l:=by rw[hl];exact xC _ zb
  rcases (hE e he o ho).2.2.2 d hd with h1|⟨h1,e',he',h2⟩
  ·exact .inl h1
  ·exact .inr ⟨e',SS l1 e l2 hl e' he' zy,h2⟩
 ·have hlt:j < ops.size:=(zT.1 ho).1;have hx:=hre (infoAt ops j) (zX.2 ⟨j,yS.2 hlt,rfl⟩);unfold af0 at hx;simp only[infoAt,ho,htm,cond_false] at hx
  have hn:(l.any fun e=>Nat.beq e.i j)=false:=by
   cases hq:l.any fun e=>Nat.beq e.i j with
   |false=>rfl
   |true=>
    obtain⟨e,he,h1⟩:=anyI.1 hq;exact (hno e he h1).elim
  rw[hn] at hx;simp only[cond_false] at hx;generalize p1:((dP o).any fun d=>cond (tb m d) false (!(l.any fun e=>Nat.beq e.i d)))=b1 at hx
  cases b1 with
  |true=>
   obtain⟨d,hd,h1⟩:=xY.1 p1
   cases hq:tb m d with
   |true=>rw[hq] at h1;cases h1
   |false=>
    rw[hq] at h1;simp only[cond_false,Bool.not_eq_true'] at h1;exact .inl ⟨d,hd,hq,fun e he h2=>by rw[anyI.2 ⟨e,he,h2⟩] at h1;cases h1⟩
  |false=>exact .inr fun e he=>jy (zY.1 hx e he)
def Sg:gP:=fun _ _ _ _ _=>none
theorem rJ:cB Sg:=fun _ _ _ _ _ _ _ _ h=>by cases h
def Kr (l:List ME):List (AV×AV):=l.filterMap (·.en)
def KI (l:List ME):List (Nat×aF):=l.flatMap (·.bl)
def amo (ops:Array Oper):List ME→Option (Nat×Nat×Nat)
 |[]=>none
 |e::l=>match ops[e.i]? with
  |some o=>cond (uo o.op) (match e.d with
   |some d=>some (e.i,d,e.lo)
   |none=>none) (amo ops l)
  |none=>none
def ahu (ops:Array Oper):List ME→Nat
 |[]=>0
 |e::l=>match ops[e.i]? with
  |some o=>match o.op with
   | .insert s _ _ _=>s
   |_=>ahu ops l
  |none=>0
def Y4 (P:Program)(T:bH)(call ext:aj)(yl:fH)(N eD:Nat)(ops:Array Oper)(z:Nat)(info:Info):gP:=fun n m t W ld=>
 match DW T call W ops N m info W.nx t with
 |some (l,tf,nf)=>match amo ops l with
  |some (mi,dm,mb)=>cond (Y1 ops info m l mi dm mb (ahu ops l)) (cond (Nat.ble l.length n) (cond (tb (lK m l) z) none
    (lF P T call ext yl Sg N eD ops z info (n - l.length) (lK m l) tf ⟨nf,(mb,.lS (Kr l))::(KI l++W.bl),W.az,W.gl⟩ ld)) none) none
  |none=>none
 |none=>none
theorem aJ.alX {w0 w:World}{ρ dC:Env}{W:AW}(h:aJ w0 ρ W w)(he:Ext W.nx ρ dC):aJ w0 dC W w:=by
 refine⟨h.below,fun b k hb=>?_,fun b b' k k' h1 h2 e=>?_,fun b k hb=>?_,h.ng,h.gl⟩
 ·obtain⟨q1,q2,q3,q4⟩:=h.ok b k hb;rw[he.blk b q1];exact⟨q1,q2,q3,q4⟩
 ·rw[he.blk b (h.ok b k h1).1,he.blk b' (h.ok b' k' h2).1] at e;exact h.inj b b' k k' h1 h2 e
 ·obtain⟨q1,q2,_⟩:=h.ok b k hb;exact (h.rep b k hb).ext he q1 q2
section
variable {P:Program} {T:bH} {call ext:aj} {yl:fH} {N eD z:Nat} {ops:Array Oper}
theorem BJ {m:Nat}{t:TT}{W:AW}:∀(l:Info) {r:Nat×AV×AW×Option Nat×Option Nat},gZ P T N eD ops m t W l=some r→r.2.2.1.az=W.az
 |[],r,h=>by cases h
 |x::rest,r,h=>by
  have ih:gZ P T N eD ops m t W rest=some r→r.2.2.1.az=W.az:=BJ rest;unfold gZ at h;simp only[Bool.cond_eq_ite] at h
  repeat' split at h
  all_goals first
   |exact ih h
   |(rename_i htk _;obtain rfl:=zq h;exact rC htk)
   |(rename_i htk;obtain rfl:=zq h;exact rC htk)
   |(obtain rfl:=zq h;rfl)
theorem gN (hC:ai P call)(hX:dU P ext)(hY:fF P yl){fin:gP}(hF:cB fin){info:Info}{tf:TT}{Wf:AW}{dE:List Nat}:∀(n:Nat) {m:Nat} {t:TT} {W:AW} {ld:List Nat},
 lF P T call ext yl fin N eD ops z info n m t W ld=some (tf,Wf,dE)→(∀b,b∈W.az→b∈Wf.az)∧∀c,c∈ld→c∈dE
 |0,m,t,W,ld,h=>by
  simp only[lF] at h;split at h
  ·cases hz:Nat.ble ops.size z with
   |false=>rw[hz] at h;cases h
   |true=>
   rw[hz] at h;simp only[cond_true,Option.some.injEq,Prod.mk.injEq] at h;obtain⟨rfl,rfl,rfl⟩:=h;exact⟨fun _ h=>h,fun _ h=>h⟩
  ·cases h
 |n+1,m,t,W,ld,h=>by
  simp only[lF] at h;split at h
  ·cases hz:Nat.ble ops.size z with
   |false=>rw[hz] at h;cases h
   |true=>
   rw[hz] at h;simp only[cond_true,Option.some.injEq,Prod.mk.injEq] at h;obtain⟨rfl,rfl,rfl⟩:=h;exact⟨fun _ h=>h,fun _ h=>h⟩
  generalize Vl z _=WR at h
  cases WR with
  |true=>
   cases rU:kG m z ops.size with
   |false=>rw[rU] at h;cases h
   |true=>
   rw[rU] at h;simp only[cond_true,Option.some.injEq,Prod.mk.injEq] at h;obtain⟨rfl,rfl,rfl⟩:=h;exact⟨fun _ h=>h,fun _ h=>h⟩
  |false=>
  simp only[cond_false] at h;split at h
  ·rename_i i v W' b d hf;obtain⟨h1,h2⟩:=gN hC hX hY hF n h;have hm:W'.az=W.az:=BJ _ hf;refine⟨fun b hb=>h1 b (by rw[hm];exact hb),fun c hc=>h2 c ?_⟩
   cases b with
   |none=>exact hc
   |some b=>exact ze _ hc
  split at h
  ·split at h
   ·split at h
    ·rename_i r hr;obtain rfl:=zq h;generalize uo _=q at hr
     cases q with
     |false=>cases hr
     |true=>exact hF _ _ _ _ _ _ _ _ hr
    split at h
    ·split at h
     ·split at h
      ·rename_i hv;obtain⟨h1,h2⟩:=gN hC hX hY hF n h;exact⟨fun b hb=>h1 b (MQ hC hX hY hv b hb),h2⟩
      ·cases h
     ·exact gN hC hX hY hF n h
    ·cases h
   ·cases h
  ·exact hF _ _ _ _ _ _ _ _ h
theorem He (hC:ai P call)(hX:dU P ext)(hY:fF P yl){info:Info}:cB (Y4 P T call ext yl N eD ops z info):=fun n m t W ld tf Wf dE h=>by
 unfold Y4 at h;split at h
 case h_2=>cases h
 case h_1 l t2 nf _=>
 split at h
 case h_2=>cases h
 case h_1 mi dm mb _=>
 generalize Y1 _ _ _ _ _ _ _ _=q at h
 cases q with
 |false=>cases h
 |true=>
 simp only[cond_true] at h;generalize Nat.ble _ _=q at h
 cases q with
 |false=>cases h
 |true=>
 simp only[cond_true] at h;generalize tb (lK m l) z=q at h
 cases q with
 |true=>cases h
 |false=>
 simp only[cond_false] at h;have:=gN hC hX hY rJ _ h;exact this
theorem Y3 (hT:aZ P T)(hC:ai P call)(hX:dU P ext)(hY:fF P yl){w0:World}{dw:Env}{Ws:AW}{ws:World}(hws:aJ w0 dw Ws ws)(hm0:Ws.az=[])(hsel:Region.noSelect ops=true)(hnd:∀(j:Nat) (o:Oper),ops[j]? =some o→∀c,o.op≠ .defer c){rb:Option Nat}{Q:Act→World→Prop}{tf:TT}{Wf:AW}{dE:List Nat}
 (hld:∀c,c∈dE→c < Ws.nx∧(au c Ws.bl).isSome=true) (hno:∀c,c∈dE→c ∉ Wf.az) (hz:ZOk ops z)
 (hQ:ops.size≤z→∀ρ' a' w',Post w0 dw Ws ws ρ' Wf w'→aS ρ' Wf.nx N tf a'→Q a' w')
 (hZ:∀n listed m ρ' a' w',RelB ops.size listed m→kG m z ops.size=true→z∈Region.ready .any ops listed→Post w0 dw Ws ws ρ' Wf w'→aS ρ' Wf.nx N tf a'→bD P .any ops (qa Q) (bW dw ws Ws.gl dE) z rb (n+1) listed a' w'):
 nZ P N ops z w0 dw Ws ws Q tf Wf dE rb (Y4 P T call ext yl N Ws.nx ops z (cu ops)):=fun n m listed t W ld ρ a w hrl hzu h ht hp=>by
 have hmono:=He hC hX hY _ _ _ _ _ _ _ _ h;unfold Y4 at h;split at h
 case h_2=>cases h
 case h_1 l t2 nf hgo=>
 split at h
 case h_2=>cases h
 case h_1 mi dm mb _=>
 cases hB:Y1 ops (cu ops) m l mi dm mb (ahu ops l) with
 |false=>rw[hB] at h;cases h
 |true=>
 rw[hB] at h
 cases hle:Nat.ble l.length n with
 |false=>rw[hle] at h;cases h
 |true=>
 rw[hle] at h
 cases hzm:tb (lK m l) z with
 |true=>rw[hzm] at h;cases h
 |false=>
 rw[hzm] at h;simp only[cond_true,cond_false] at h;have hle:=zk hle;have kE:=nG _ hgo;have hok:=ad1 hB;obtain⟨hnf,hrange,_⟩:=kE.range
 have hins:∀e∈l,mJ N e.d=true:=fun e he=>by
  obtain⟨_,_,_,_,_,_,_,_,_,hd,_⟩:=kE.at hok.apart he;exact hd
 obtain⟨em,hem,_,_,_,_,_,ZV,_,_,_⟩:=hok.one;have hmb:W.nx≤mb:=by rw[← ZV];exact (hrange em hem).1
 have hpost:∀L ρ' a' w',kN w0 ρ W w N nf t l mi mb L ρ' a' w'→Post w0 dw Ws ws ρ' (WL W l mi mb nf L) w':=fun L ρ' a' w' h=>hp.trans (h.post hnf hmb fun e he=>(hrange e he).1)
 have hst:∀L ρ' a' w',kN w0 ρ W w N nf t l mi mb L ρ' a' w'→bW dw ws Ws.gl dE w':=fun L ρ' a' w' h=>(hpost L ρ' a' w' h).stand hws hm0 hld fun c hc hm=>hno c hc (hmono.1 c hm)
 have hall:∀L:Nat→Bool,(∀e∈l,L e.i=true)→WL W l mi mb nf L=⟨nf,(mb,.lS (Kr l))::(KI l++W.bl),W.az,W.gl⟩:=fun L hL=>by
  obtain⟨e,he,_,_,J3,_⟩:=hok.one;unfold WL;have h1:L mi=true:=by rw[← J3];exact hL e he
  have h2:kT l L=Kr l:=by rw[aay (L':=fun _=>true) hL];rfl
  have h3:nP l L=KI l:=by rw[abm (L':=fun _=>true) hL];rfl
  rw[h1,h2,h3];rfl
 have J4:Ext W.nx ρ ⟨fun b=>if b < W.nx then ρ.blk b else w.heap.size,ρ.cap,ρ.es⟩:=⟨fun b hb=>zW hb,fun _ _=>rfl,fun _ _=>rfl⟩
 have ane:nP l (fun _=>false)=[]:=by
  unfold nP
  induction l with
  |nil=>rfl
  |cons x l ih=>simp
 have hstart:kN w0 ρ W w N nf t l mi mb (fun _=>false) ⟨fun b=>if b < W.nx then ρ.blk b else w.heap.size,ρ.cap,ρ.es⟩ a w:=by
  refine⟨J4,Gr.refl _ _,?_,fun b h1 _=>?_,⟨t,ht.mono J4 hnf,mY.nil _ _⟩,fun e _ h=>(by cases h),fun _ e _ h=>(by cases h)⟩
  ·unfold WL;rw[ane];exact (hp.rep.alX J4).grow hnf
  ·show w.heap.size≤if b < W.nx then ρ.blk b else w.heap.size
   rw[za zy];exact zn _
 have hk:left l (fun _=>false)=l.length:=by
  unfold left;simp
 have:=Y0 (Q:=Q) (z:=z) (rb:=rb) (S:=bW dw ws Ws.gl dE) hT hC hp.rep kE hok ht.ok hins hnd hst (n:=n - l.length) (fun listed' L ρ' a' w' amK hL' h'=>?_) l.length hk hrl (fun j=>⟨.inl,fun h=>h.elim id fun ⟨_,_,_,h⟩=>(by cases h)⟩) hstart
 ·rwa [Nat.sub_add_cancel hle] at this
 ·rw[jD _ _ amK] at h;have hp':=hpost L ρ' a' w' h';obtain⟨tL,htr,hv⟩:=h'.Xx;have hv':=hv.ext (L':=fun _=>true) hL'
  have aqo:aS ρ' nf N t2 a':=htr.same fun k=>hv'.eq (kE.final hok.apart) k
  rw[hall L hL'] at hp';exact dB hT hC hX hY rJ hws hm0 hsel hnd hld hno hz (fun _ _ _ _ _ _ _ _ _ _ _ h=>by cases h) hQ hZ _ amK hzm h aqo hp'
end
def iD (sh:Option Nat)(n:Nat):AV:=match sh with
 |none=>.ptr n 0
 |some len=>.slice n 0 0 len (some len)
def Cz (T:bH)(t:TT):Op→Option (List AV×TypeId×Option Nat)
 | .alloc e=>match T.get e with
   |some i=>some (i.zero.map gX,e,none)
   |none=>none
 | .buildSlice s len parts=>match si T t ⟨0,[],[],[]⟩ (.buildSlice s len parts) with
   |some (_,⟨_,(_,.cells l e none)::_,_,_⟩)=>some (l,e,some len)
   |_=>none
 |_=>none
theorem uS {T:bH}{t:TT}{op:Op}{l:List AV}{e:TypeId}{sh:Option Nat}(h:Cz T t op=some (l,e,sh))(W:AW):si T t W op=some (iD sh W.nx,W.push (.cells l e none)):=by
 unfold Cz at h;split at h
 ·rename_i e';split at h
  case h_2=>cases h
  case h_1 i hi=>
  simp only[Option.some.injEq,Prod.mk.injEq] at h;obtain⟨rfl,rfl,rfl⟩:=h;unfold si;simp only[hi,iD]
 ·rename_i s len' parts;split at h
  case h_2=>cases h
  case h_1 u nx b l' e' bl' az gl heff=>
  simp only[Option.some.injEq,Prod.mk.injEq] at h;obtain⟨rfl,rfl,rfl⟩:=h;unfold si at heff ⊢;dsimp only at heff ⊢;split at heff
  case h_2=>cases heff
  case h_1 i hi=>
  split at heff
  case h_2=>cases heff
  case h_1 e2 sz uZ hk=>
  split at heff
  case h_2=>cases heff
  case h_1 ie hie=>
  split at heff
  case isFalse=>cases heff
  case isTrue hc=>
  obtain⟨q,hq,h2⟩:=zi.1 heff;simp only[AW.push,Prod.mk.injEq,AW.mk.injEq,List.cons.injEq,aF.cells.injEq] at h2;obtain⟨_,_,⟨⟨_,rfl,rfl,_⟩,_⟩,_⟩:=h2;simp only[if_pos hc,hq,Option.map_some,iD]
 ·cases h
theorem abB {_P:Program}{T:bH}{ρ:Env}{n N:Nat}{t:TT}{a:Act}{op:Op}{l:List AV}{e:TypeId}{sh:Option Nat}(h:Cz T t op=some (l,e,sh))(ht:aS ρ n N t a):oks n l:=by
 unfold Cz at h;split at h
 ·split at h
  case h_2=>cases h
  case h_1 i hi=>
  simp only[Option.some.injEq,Prod.mk.injEq] at h;obtain⟨rfl,_⟩:=h;exact iq _ _
 ·rename_i s len' parts;split at h
  case h_2=>cases h
  case h_1 u nx b l' e' bl' az gl heff=>
  simp only[Option.some.injEq,Prod.mk.injEq] at h;obtain⟨rfl,rfl,rfl⟩:=h;unfold si at heff;dsimp only at heff;split at heff
  case h_2=>cases heff
  case h_1 i hi=>
  split at heff
  case h_2=>cases heff
  case h_1 e2 sz uZ hk=>
  split at heff
  case h_2=>cases heff
  case h_1 ie hie=>
  split at heff
  case isFalse=>cases heff
  case isTrue hc=>
  obtain⟨q,hq,h2⟩:=zi.1 heff;simp only[AW.push,Prod.mk.injEq,AW.mk.injEq,List.cons.injEq,aF.cells.injEq] at h2;obtain⟨_,_,⟨⟨_,rfl,rfl,_⟩,_⟩,_⟩:=h2;refine mR _ _ hq ((bQ _ _).2 fun v hv=>?_) (oZ ht parts)
  obtain⟨k,_,rfl⟩:=zX.1 hv;exact nQ _ _
 ·cases h
theorem Fj {T:bH}{t:TT}{op:Op}{r:List AV×TypeId×Option Nat}(h:Cz T t op=some r):lh op=false∧uo op=false∧q9 op=1∧Qu op=false:=by
 unfold Cz at h;split at h
 ·exact⟨rfl,rfl,rfl,rfl⟩
 ·exact⟨rfl,rfl,rfl,rfl⟩
 ·cases h
theorem ajF {t:TT}{d:Nat}{v:AV}(hd:d < 1048575){x:Operand}(hx:x≠ .tmp d):ev (TT.put 20 t d v) x=ev t x:=by
 cases x with
 |tmp i=>
  show dZ i (TT.put 20 t d v)=dZ i t;rw[l9 hd];rw[za fun e=>hx (by rw[e])]
 |_=>rfl
theorem KS {T:bH}{ops:Array Oper}{N:Nat}{t:TT}{o:Oper}{d:Option Nat}{v:AV}(hd:mJ N d=true)(h:∀k,d=some k→k ∉ o.looksAt ops):Cz T (dY d v t) o.op=Cz T t o.op:=by
 cases d with
 |none=>rfl
 |some k=>
  have hk:k < 1048575:=by
   simp only[mJ,Bool.and_eq_true] at hd;exact aK hd.2
  have hl:=h k rfl;obtain⟨dst,op,type,pos,after,guard⟩:=o;unfold Cz
  cases op with
  |buildSlice s len parts=>
   have hp:(parts.toList.map fun p=>(p.1,ev (TT.put 20 t k v) p.2))=parts.toList.map fun p=>(p.1,ev t p.2):=yt fun p hp=>by
    rw[ajF hk fun e=>hl (xV _ (List.mem_filterMap.2 ⟨.tmp k,?_,rfl⟩))]
    simp only[Op.operands,List.mem_map];exact⟨p,hp,e⟩
   simp only[si,dY,hp]
  |_=>rfl
theorem Uv {T:bH}{W W':AW}{s:Nat}{x v:AV}{lo hi:Option AV}(h:rF T W s x lo hi=some (v,W')):W'.bl=W.bl:=by
 unfold rF at h
 repeat' split at h
 all_goals first
  |(obtain⟨_,rfl⟩:=zm (zq h);rfl)
  |cases h
theorem Pv {T:bH}{W W':AW}{s:Nat}{x hi mx v:AV}{lo:Option AV}(h:nk T W s x lo hi mx=some (v,W')):W'.bl=W.bl:=by
 unfold nk at h
 repeat' split at h
 all_goals first
  |(obtain⟨_,rfl⟩:=zm (zq h);rfl)
  |cases h
theorem afa {T:bH}{t:TT}{W W':AW}{o:Op}{v:AV}(h:Ku T t W o=some (v,W')):W'.bl=W.bl:=by
 unfold Ku at h
 repeat' split at h
 all_goals first
  |exact Uv h
  |exact Pv h
  |(obtain⟨_,_,h2⟩:=zi.1 h;obtain⟨_,rfl⟩:=zm h2;rfl)
  |(obtain⟨_,rfl⟩:=zm (zq h);rfl)
  |cases h
section
variable {P:Program} {T:bH} {call ext:aj} {yl:fH} {N:Nat}
theorem XA {t:TT}{W W':AW}{o:Oper}{v:AV}{b:Option Nat}(h:takeA P T t W o=some (v,W',b)):W'.bl=W.bl:=by
 unfold takeA at h;split at h
 ·obtain⟨_,h2⟩:=zm (zq h);obtain⟨rfl,_⟩:=zm h2;rfl
 split at h
 ·obtain⟨_,h2⟩:=zm (zq h);obtain⟨rfl,_⟩:=zm h2;rfl
 split at h
 ·rename_i r hr;obtain⟨_,h2⟩:=zm (zq h);obtain⟨rfl,_⟩:=zm h2;exact afa (v:=r.1) (by rw[hr])
 split at h
 ·split at h
  ·obtain⟨_,_,h2⟩:=zi.1 h;obtain⟨_,h3⟩:=zm h2;obtain⟨rfl,_⟩:=zm h3;rfl
  ·obtain⟨_,_,h2⟩:=zi.1 h;obtain⟨_,h3⟩:=zm h2;obtain⟨rfl,_⟩:=zm h3;rfl
  ·cases h
 ·obtain⟨_,_,h2⟩:=zi.1 h;obtain⟨_,h3⟩:=zm h2;obtain⟨rfl,_⟩:=zm h3;rfl
structure Float (ws w:World)(ρ:Env)(W:AW)(x:Nat)(l:List AV)(e:TypeId):Prop where
 lo:ws.heap.size≤x
 hi:x < w.heap.size
 row:w.heap[x]? =some (.cells (aH ρ l).toArray e (0,0))
 no:∀b k,au b W.bl=some k→ρ.blk b≠x
 ok:oks W.nx l
def qm (sh:Option Nat)(x:Nat):Value:=match sh with
 |none=>.pointer (some ⟨x,0,none⟩)
 |some len=>.slice (some ⟨x,0,none⟩) len len
theorem Aa (ρ:Env)(sh:Option Nat)(n:Nat):cv ρ (iD sh n)=qm sh (ρ.blk n):=by cases sh<;>rfl
theorem Jf {sh:Option Nat}{n m:Nat}(h:n < m):(iD sh n).ok m:=by cases sh<;>exact h
theorem Float.step {ws w w':World}{w0:World}{ρ ρ':Env}{W W':AW}{x:Nat}{l:List AV}{e:TypeId}(h:Float ws w ρ W x l e)(_hW:aJ w0 ρ W w)(hp:Post w0 ρ ⟨W.nx,W.bl,[],W.gl⟩ w ρ' W' w'):Float ws w' ρ' W' x l e:=by
 have hno:¬fV ρ ⟨W.nx,W.bl,[],W.gl⟩ W' x:=fun ⟨b,q1,q2,q3⟩=>by
  rcases hp.old b q2 q1 with h1|h1
  ·cases h1
  ·obtain⟨k,hk⟩:=z8.1 h1;exact h.no b k hk q3
 refine⟨h.lo,zZ h.hi hp.gr.size,?_,fun b k hb hx=>?_,oks.mono hp.nx _ h.ok⟩
 ·rw[hp.gr.block _ h.hi hno,h.row,cz hp.ext l h.ok]
 ·by_cases hlt:b < W.nx
  ·obtain⟨k',hk'⟩:=z8.1 (hp.dom b hlt (by rw[hb];rfl))
   rw[hp.ext.blk b hlt] at hx;exact h.no b k' hk' hx
  ·exact hno (hx ▸ hp.fresh b (by simpa using hlt) (hp.rep.ok b k hb).1 (by rw[hx];exact h.hi))
theorem Float.take {ws w:World}{w0:World}{ρ ρ':Env}{W W':AW}{x:Nat}{l:List AV}{e:TypeId}(h:Float ws w ρ W x l e)(hW:aJ w0 ρ W w)(hb:W'.bl=W.bl)(hp:Post w0 ρ W w ρ' W' w):Float ws w ρ' W' x l e:=
 ⟨h.lo,h.hi,by rw[h.row,cz hp.ext l h.ok],fun b k hk hx=>by
   rw[hb] at hk;rw[hp.ext.blk b (hW.ok b k hk).1] at hx;exact h.no b k hk hx,oks.mono hp.nx _ h.ok⟩
theorem Float.done {ws w:World}{w0:World}{dw ρ:Env}{Ws W:AW}{x:Nat}{l:List AV}{e:TypeId}(h:Float ws w ρ W x l e)(hws:aJ w0 dw Ws ws)(hp:Post w0 dw Ws ws ρ W w):Post w0 dw Ws ws (ρ.up W.nx x 0) (W.push (.cells l e none)) w:=by
 have hE:Ext W.nx ρ (ρ.up W.nx x 0):=Env.gu _ _ _ _
 have hget:∀b k,au b ((W.nx,aF.cells l e none)::W.bl)=some k→(b=W.nx∧k= .cells l e none)∨(b < W.nx∧au b W.bl=some k):=fun b k hb=>by
  by_cases hq:W.nx=b
  ·subst hq;rw[aA] at hb;exact .inl ⟨rfl,(zq hb).symm⟩
  ·rw[aD _ _ hq] at hb;exact .inr ⟨(hp.rep.ok b k hb).1,hb⟩
 refine⟨hp.ext.trans hE hp.nx,zV hp.nx (yY _),hp.az,hp.gr,fun b q1 q2 q3=>?_,⟨hp.rep.below,fun b k hb=>?_,fun b b' k k' g1 g2 hx=>?_,fun b k hb=>?_,hp.rep.Sd _,hp.rep.gl⟩,fun b hb hs=>?_,hp.old,hp.gl⟩
 ·by_cases hb:b < W.nx
  ·rw[hE.blk b hb] at q3 ⊢;exact hp.fresh b q1 hb q3
  ·have:b=W.nx:=by have:b < W.nx+1:=q2;omega
   subst this;rw[Env.aM] at q3;have:=h.lo;omega
 ·rcases hget b k hb with⟨rfl,rfl⟩|⟨hlt,hb⟩
  ·refine⟨zS _,oks.mono (yY _) _ h.ok,?_,?_⟩
   ·rw[Env.aM];exact zV hws.below.size h.lo
   ·rw[Env.aM];exact h.hi
  ·obtain⟨p1,p2,p3,p4⟩:=hp.rep.ok b k hb;rw[hE.blk b hlt];exact⟨xB p1,aF.ok.mono (yY _) p2,p3,p4⟩
 ·rcases hget b k g1 with⟨rfl,rfl⟩|⟨hlt,g1⟩<;>rcases hget b' k' g2 with⟨rfl,rfl⟩|⟨hlt',g2⟩
  ·rfl
  ·rw[Env.aM,hE.blk b' hlt'] at hx;exact (h.no b' k' g2 hx.symm).elim
  ·rw[Env.aM,hE.blk b hlt] at hx;exact (h.no b k g1 hx).elim
  ·rw[hE.blk b hlt,hE.blk b' hlt'] at hx;exact hp.rep.inj b b' k k' g1 g2 hx
 ·rcases hget b k hb with⟨rfl,rfl⟩|⟨hlt,hb⟩
  ·show _=_;rw[Env.aM,h.row,cz hE l h.ok]
  ·exact (hp.rep.rep b k hb).ext hE hlt (hp.rep.ok b k hb).2.1
 ·rcases z8.1 hs with⟨k,hk⟩
  rcases hget b k hk with⟨rfl,_⟩|⟨_,hq⟩
  ·have:=hp.nx;omega
  ·exact hp.dom b hb (by rw[hq];rfl)
theorem Does.act {a a':Act}{o:Oper}{w0:World}{ρ:Env}{W W':AW}{w:World}{v:AV}(h:Does P a o w0 ρ W w v W')(he:execOp a'.eval o=execOp a.eval o):Does P a' o w0 ρ W w v W':=by
 unfold Does at *;rw[he];exact h
def WK (P:Program)(T:bH)(N:Nat)(ops:Array Oper)(z:Nat)(w0:World)(dw:Env)(Ws:AW)(ws:World)(Q:Act→World→Prop)(tf:TT)(Wf:AW)(dE:List Nat)(rb:Option Nat)(fin:gP):Prop:=
 ∀n m listed t W ld ρ a w j oj l e sh x,RelB ops.size listed m→tb m z=false→ops[j]? =some oj→oj.guard=none→mJ N oj.dst=true→j≠z→j∈Region.ready .any ops listed→Cz T t oj.op=some (l,e,sh)→fin (n+1) m t W ld=some (tf,Wf,dE)→aS ρ W.nx N t a→Post w0 dw Ws ws ρ W w→Float ws w ρ W x l e→
  bD P .any ops (qa Q) (bW dw ws Ws.gl dE) z rb n (listed.setIfInBounds j true) (a.put oj.dst (qm sh x)) w
theorem adW {ops:Array Oper}{z:Nat}{w0:World}{dw:Env}{Ws:AW}{ws:World}{Q:Act→World→Prop}{tf:TT}{Wf:AW}{dE:List Nat}{rb:Option Nat}:WK P T N ops z w0 dw Ws ws Q tf Wf dE rb Sg:=fun _ _ _ _ _ _ _ _ _ _ _ _ _ _ _ _ _ _ _ _ _ _ _ h=>by cases h
theorem EA (hT:aZ P T)(hC:ai P call)(hX:dU P ext)(hY:fF P yl){fin:gP}(hF:cB fin){w0:World}{dw:Env}{Ws:AW}{ws:World}(hws:aJ w0 dw Ws ws)(hm0:Ws.az=[]){ops:Array Oper}(hsel:Region.noSelect ops=true)(hnd:∀(j:Nat) (o:Oper),ops[j]? =some o→∀c,o.op≠ .defer c){rb:Option Nat}{Q:Act→World→Prop}{tf:TT}{Wf:AW}{dE:List Nat}
 (hld:∀c,c∈dE→c < Ws.nx∧(au c Ws.bl).isSome=true) (hno:∀c,c∈dE→c ∉ Wf.az) {z:Nat} (hz:ZOk ops z) (hfin:nZ P N ops z w0 dw Ws ws Q tf Wf dE rb fin) (BG:WK P T N ops z w0 dw Ws ws Q tf Wf dE rb fin)
 (hQ:ops.size≤z→∀ρ' a' w',Post w0 dw Ws ws ρ' Wf w'→aS ρ' Wf.nx N tf a'→Q a' w')
 (hZ:∀n listed m ρ' a' w',RelB ops.size listed m→kG m z ops.size=true→z∈Region.ready .any ops listed→Post w0 dw Ws ws ρ' Wf w'→aS ρ' Wf.nx N tf a'→bD P .any ops (qa Q) (bW dw ws Ws.gl dE) z rb (n+1) listed a' w')
 {j:Nat} {oj:Oper} (hoj:ops[j]? =some oj) (hgj:oj.guard=none) (hdj:mJ N oj.dst=true) (hjz:j≠z) {e:TypeId} {sh:Option Nat} {x:Nat}:
 ∀(n:Nat) {listed:Array Bool} {m:Nat} {t:TT} {W:AW} {ld:List Nat} {ρ:Env} {a:Act} {w:World} {l:List AV},RelB ops.size listed m→tb m z=false→j∈Region.ready .any ops listed→Cz T t oj.op=some (l,e,sh)→eu P T call ext yl fin N Ws.nx ops z (n+1) listed m t W ld=some (tf,Wf,dE)→aS ρ W.nx N t a→Post w0 dw Ws ws ρ W w→Float ws w ρ W x l e→
  bD P .any ops (qa Q) (bW dw ws Ws.gl dE) z rb n (listed.setIfInBounds j true) (a.put oj.dst (qm sh x)) w
 |n,listed,m,t,W,ld,ρ,a,w,l,hrl,hzu,hjr,hal,h,ht,hp,hfl=>by
  have ZW:j < ops.size:=(zT.1 hoj).1
  have hju:tb m j=false:=by
   have:=(wL.1 hjr).1;rwa [hrl.aab ZW] at this
  have hmono:=dS hC hX hY hF (n+1) h;have hst:bW dw ws Ws.gl dE w:=hp.stand hws hm0 hld fun c hc hm=>hno c hc (hmono.1 c hm)
  obtain⟨k1,k2,k3,_⟩:=Fj hal;simp only[eu] at h;split at h
  ·rename_i hr;rw[hr] at hjr;cases hjr
  cases WR:iN z (Region.ready .any ops listed) with
  |true=>
   rw[WR] at h
   cases rU:kG m z ops.size with
   |false=>rw[rU] at h;cases h
   |true=>
   have h1:Nat.lor m (Nat.shiftLeft 1 z)=2 ^ ops.size - 1:=(beq_iff _ _).1 rU
   have h2:tb (dH m z) j=true:=by
    unfold dH;rw[h1,sH,wH]
    simpa using ZW
   rw[fO,hju] at h2;simp at h2;exact (hjz h2.symm).elim
  |false=>
  have hnz:∀i,i∈Region.ready .any ops listed→i≠z:=fun i hi e=>nH WR (e ▸ hi)
  rw[WR] at h;simp only[cond_false] at h;split at h
  ·rename_i i v W' b d hf;obtain⟨hi,o,ho,hpu,rfl,hd,hfree,hor⟩:=lD _ hf
   have hij:i≠j:=fun e=>by
    subst e;rw[hoj] at ho;obtain rfl:=zq ho;rw[k1] at hpu;cases hpu
   have hiz:=hnz i hi;have hlt:=kg hi
   cases n with
   |zero=>
    simp only[eu] at h;split at h
    ·rename_i hr;have:=wX hjr (fun e=>hij e.symm:j≠i)
     rw[hr] at this;cases this
    ·cases h
   |succ n=>
   have hzl:(listed.setIfInBounds j true).getD z false=false:=by rw[gW true hjz,hrl.aac];exact hzu
   have hm2:=dS hC hX hY hF (n+1) h;have hr:(Region.ready .any ops (listed.setIfInBounds j true)).contains i=true:=by simpa using ready_mono hi hij
   have hap:o.apart ops oj=true:=by
    have hf2:=free_eq hrl ho;rw[hfree,lJ,zY] at hf2;refine xy fun hn=>?_
    have hmem:j∈(infoAt ops i).2.2:=by
     refine xQ.2 ⟨yS.2 ZW,?_⟩
     have hok:YJ ops i j=false:=by
      unfold YJ;rw[ho,hoj];simp only;have:o.apart ops oj=false:=by simpa using hn
      rw[this,Bool.or_false,wU];intro hany;rw[← Array.any_toList] at hany;obtain⟨x,hx,hx2⟩:=xY.1 hany;have hx:x∈oj.after:=by simpa using hx
      simp only[Bool.and_eq_true,beq_iff_eq] at hx2;obtain⟨_,o2,ho2,hall⟩:=wL.1 hjr;rw[hoj] at ho2;obtain rfl:=zq ho2;have h1:=hall x hx hx2.1;rw[hx2.2] at h1;have h2:=(wL.1 hi).1;rw[hrl.aac] at h1;rw[hrl.aab hlt] at h2;rw[h1] at h2;cases h2
     simp only[hok,Bool.not_false,Bool.and_true,Bool.not_eq_true',beq_eq_false_iff_ne];exact fun e=>hij e.symm
    have:=hf2 j hmem;rw[hju] at this;cases this
   obtain⟨ap1,ap2,ap3⟩:=wY hap
   have hfree':Region.free .any ops (listed.setIfInBounds j true) i=true:=by
    rw[← free_eq (hrl.set ZW) ho,lJ,zY];have hf2:=free_eq hrl ho;rw[hfree,lJ,zY] at hf2;intro q hq;rw[fO,hf2 q hq,Bool.or_true]
   have hex:=wK (ops:=ops) o (xS hsel i o · · ho) a oj.dst (qm sh x) fun d hd=>ap3 d hd
   have hwp:=wanted_put (ops:=ops) o a oj.dst (qm sh x) fun d hd=>ap3 d hd
   have hcomm:∀u,(a.put oj.dst (qm sh x)).put o.dst u=(a.put o.dst u).put oj.dst (qm sh x):=fun u=>(xU a u (qm sh x) ap2).symm
   have am3:j∈Region.ready .any ops (listed.setIfInBounds i true):=wX hjr fun e=>hij e.symm
   have ank:∀u,Cz T (dY o.dst u t) oj.op=some (l,e,sh):=fun u=>by rw[KS hd ap1];exact hal
   have hss:(listed.setIfInBounds j true).setIfInBounds i true=(listed.setIfInBounds i true).setIfInBounds j true:=yK _ _ fun e=>hij e.symm
   rcases hor with⟨hw,htk,hb⟩|⟨hw,rfl,rfl,rfl⟩
   ·obtain⟨ρ',h1,h2,h3⟩:=Gs hT hp hst ht htk fun c hc=>⟨hb c hc,hm2.2 c (by subst hc;exact zb)⟩
    have hy:YieldsIf P ops (fun _=>True) o (cv ρ' v) (a.put oj.dst (qm sh x))∨((∀oz,ops[z]? =some oz→∃e∈oz.after,Region.binds .any e=true∧e.on=i)∧YieldsIf P ops (bW dw ws Ws.gl dE) o (cv ρ' v) (a.put oj.dst (qm sh x))):=by
     cases Ej:Qu o.op with
     |false=>exact .inl (YieldsIf.of_same (.inl ⟨by rw[fK ht];exact hw,fun w2 _=>h1 w2 fun h=>by rw[Ej] at h;cases h⟩) hex hwp)
     |true=>exact .inr ⟨fun oz hoz=>hz.ld oz hoz i o ho Ej hiz,YieldsIf.of_same (.inl ⟨by rw[fK ht];exact hw,fun w2 hs=>h1 w2 fun _=>hs⟩) hex hwp⟩
    refine kX ho hsel hnd hfree' hr (fun _ _ _ h=>h) hiz hst hzl hy ?_
    rw[hcomm,hss];exact EA hT hC hX hY hF hws hm0 hsel hnd hld hno hz hfin BG hQ hZ hoj hgj hdj hjz n (hrl.set hlt) (by rw[fO,hzu];simpa using hiz) am3 (ank _) h ((ht.mono h2.ext h2.nx).put hd h3) (hp.trans h2) (hfl.take hp.rep (XA htk) h2)
   ·refine kX ho hsel hnd hfree' hr (fun _ _ _ h=>h) hiz hst hzl (.inl (YieldsIf.of_same (.inr ⟨by rw[fK ht];exact hw,rfl⟩) hex hwp)) ?_
    rw[hcomm,hss];exact EA hT hC hX hY hF hws hm0 hsel hnd hld hno hz hfin BG hQ hZ hoj hgj hdj hjz n (hrl.set hlt) (by rw[fO,hzu];simpa using hiz) am3 (ank _) h (ht.put (v:=.tuple []) hd trivial) hp hfl
  split at h
  ·rename_i i hr;have hji:j=i:=by rw[hr] at hjr;simpa using hjr
   subst hji;rw[hoj] at h;simp only[k2,cond_false] at h;rw[zW hdj] at h;have hwt:fM N t ops.toList oj=true:=by unfold fM;rw[hgj]
   rw[zW hwt] at h
   have hop:opY P T call ext yl t W oj=some (iD sh W.nx,W.push (.cells l e none)):=by
    have h1:uY P T call ext t W oj=some (iD sh W.nx,W.push (.cells l e none)):=by
     unfold uY;rw[k3];exact uS hal W
    unfold opY;split
    ·rename_i heq;rw[heq] at k3
     cases k3
    ·exact h1
   rw[hop] at h;simp only at h;have hpd:=hfl.done hws hp;have ev:cv (ρ.up W.nx x 0) (iD sh W.nx)=qm sh x:=by rw[Aa,Env.aM]
   have htd:=(ht.mono (Env.gu ρ W.nx x 0) (yY _)).put hdj (v:=iD sh W.nx) (Jf (zS _));rw[ev] at htd;exact dB hT hC hX hY hF hws hm0 hsel hnd hld hno hz hfin hQ hZ n (hrl.set ZW) (by rw[fO,hzu];simpa using hjz) h htd hpd
  ·exact BG _ _ _ _ _ _ _ _ _ _ _ _ _ _ _ hrl hzu hoj hgj hdj hjz hjr hal h ht hp hfl
def P7 (j:Nat):Info→Bool
 |[x]=>Nat.beq x.1 j
 |_=>false
theorem kr {ops:Array Oper}{listed:Array Bool}{m j:Nat}(hrl:RelB ops.size listed m)(h:P7 j (dM (cu ops) m)=true):Region.ready .any ops listed=[j]:=by
 rw[← jV hrl];unfold P7 at h;split at h
 ·rename_i x hx;rw[hx,zO,List.map_nil,(beq_iff _ _).1 h]
 ·cases h
def flB (T:bH)(N:Nat)(ops:Array Oper)(z:Nat)(info:Info)(m:Nat)(t:TT)(i j:Nat)(oi oj:Oper):Bool:=
 oi.guard.isNone && oj.guard.isNone && mJ N oi.dst && mJ N oj.dst && oj.apart ops oi && !(Nat.beq i z) && !(Nat.beq j z) && P7 i (dM info (dH m j)) && (Cz T t oj.op).isSome && !(Nat.beq i j)
def flA (P:Program)(T:bH)(call ext:aj)(yl:fH)(N eD:Nat)(ops:Array Oper)(z:Nat)(info:Info)(fin:gP)(n m:Nat)(t:TT)(W:AW)(ld:List Nat)(i j:Nat)(oi oj:Oper):Option (TT×AW×List Nat):=
 cond (flB T N ops z info m t i j oi oj) (match uY P T call ext t ⟨W.nx,W.bl,[],W.gl⟩ oi with
  |some (v,W1)=>lF P T call ext yl fin N eD ops z info (n - 1) (dH m i) (dY oi.dst v t) ⟨W1.nx,W1.bl,jm W1.az W.az,W1.gl⟩ ld
  |none=>none) none
def Pe (P:Program)(T:bH)(call ext:aj)(yl:fH)(N eD:Nat)(ops:Array Oper)(z:Nat)(info:Info)(fin:gP):gP:=fun n m t W ld=>
 match dM info m with
 |[x,y]=>match ops[x.1]?,ops[y.1]? with
  |some ox,some oy=>cond (Nat.ble 2 n) (match flA P T call ext yl N eD ops z info fin n m t W ld x.1 y.1 ox oy with
   |some r=>some r
   |none=>flA P T call ext yl N eD ops z info fin n m t W ld y.1 x.1 oy ox) none
  |_,_=>none
 |_=>none
def aao (P:Program)(T:bH)(call ext:aj)(yl:fH)(N eD:Nat)(ops:Array Oper)(z:Nat)(info:Info):Nat→gP
 |0=>Sg
 |d+1=>Pe P T call ext yl N eD ops z info (aao P T call ext yl N eD ops z info d)
def orF (f g:gP):gP:=fun n m t W ld=>match f n m t W ld with
 |some r=>some r
 |none=>g n m t W ld
def VS (P:Program)(T:bH)(call ext:aj)(yl:fH)(N eD:Nat)(ops:Array Oper)(z:Nat)(info:Info)(d:Nat):gP:=orF (aao P T call ext yl N eD ops z info d) (Y4 P T call ext yl N eD ops z info)
theorem MK {f g:gP}(hf:cB f)(hg:cB g):cB (orF f g):=fun n m t W ld tf Wf dE h=>by
 unfold orF at h;split at h
 ·rename_i r hr;obtain rfl:=zq h;exact hf _ _ _ _ _ _ _ _ hr
 ·exact hg _ _ _ _ _ _ _ _ h
theorem EB (hC:ai P call)(hX:dU P ext)(hY:fF P yl){eD z:Nat}{ops:Array Oper}{info:Info}{fin:gP}(hF:cB fin){n m:Nat}{t:TT}{W:AW}{ld:List Nat}{i j:Nat}{oi oj:Oper}{tf:TT}{Wf:AW}{dE:List Nat}
 (h:flA P T call ext yl N eD ops z info fin n m t W ld i j oi oj=some (tf,Wf,dE)):(∀b,b∈W.az→b∈Wf.az)∧∀c,c∈ld→c∈dE:=by
 unfold flA at h
 cases hq:flB T N ops z info m t i j oi oj with
 |false=>rw[hq] at h;cases h
 |true=>
 rw[hq] at h;simp only[cond_true] at h;split at h
 ·obtain⟨q1,q2⟩:=gN hC hX hY hF _ h;exact⟨fun b hb=>q1 b (ed.2 (.inr hb)),q2⟩
 ·cases h
theorem Um (hC:ai P call)(hX:dU P ext)(hY:fF P yl){eD z:Nat}{ops:Array Oper}{info:Info}{fin:gP}(hF:cB fin):cB (Pe P T call ext yl N eD ops z info fin):=fun n m t W ld tf Wf dE h=>by
 unfold Pe at h;split at h
 case h_2=>cases h
 case h_1 x y _=>
 split at h
 case h_2=>cases h
 case h_1 ox oy _ _=>
 cases hn:Nat.ble 2 n with
 |false=>rw[hn] at h;cases h
 |true=>
 rw[hn] at h;simp only[cond_true] at h;split at h
 ·rename_i r hr;obtain rfl:=zq h;exact EB hC hX hY hF hr
 ·exact EB hC hX hY hF h
theorem AJ (hC:ai P call)(hX:dU P ext)(hY:fF P yl){eD z:Nat}{ops:Array Oper}{info:Info}:∀d,cB (aao P T call ext yl N eD ops z info d)
 |0=>rJ
 |d+1=>Um hC hX hY (AJ hC hX hY d)
theorem AL (hC:ai P call)(hX:dU P ext)(hY:fF P yl){eD z:Nat}{ops:Array Oper}{info:Info}(d:Nat):cB (VS P T call ext yl N eD ops z info d):=MK (AJ hC hX hY d) (He hC hX hY)
section
variable (hT:aZ P T) (hC:ai P call) (hX:dU P ext) (hY:fF P yl) {w0:World} {dw:Env} {Ws:AW} {ws:World} (hws:aJ w0 dw Ws ws) (hm0:Ws.az=[]) {ops:Array Oper} (hsel:Region.noSelect ops=true) (hnd:∀(j:Nat) (o:Oper),ops[j]? =some o→∀c,o.op≠ .defer c) {z:Nat} {rb:Option Nat} {Q:Act→World→Prop} {tf:TT} {Wf:AW} {dE:List Nat}
 (hld:∀c,c∈dE→c < Ws.nx∧(au c Ws.bl).isSome=true) (hno:∀c,c∈dE→c ∉ Wf.az) (hz:ZOk ops z)
 (hQ:ops.size≤z→∀ρ' a' w',Post w0 dw Ws ws ρ' Wf w'→aS ρ' Wf.nx N tf a'→Q a' w')
 (hZ:∀n listed m ρ' a' w',RelB ops.size listed m→kG m z ops.size=true→z∈Region.ready .any ops listed→Post w0 dw Ws ws ρ' Wf w'→aS ρ' Wf.nx N tf a'→bD P .any ops (qa Q) (bW dw ws Ws.gl dE) z rb (n+1) listed a' w')
include hT hC hX hY hws hm0 hsel hnd hld hno hz hQ hZ
theorem NI {fin:gP}(hF:cB fin)(hfin:nZ P N ops z w0 dw Ws ws Q tf Wf dE rb fin)(BG:WK P T N ops z w0 dw Ws ws Q tf Wf dE rb fin){n m:Nat}{t:TT}{W:AW}{ld:List Nat}{i j:Nat}{oi oj:Oper}(hoi:ops[i]? =some oi)(hoj:ops[j]? =some oj)(hn:2≤n)
 (h:flA P T call ext yl N Ws.nx ops z (cu ops) fin n m t W ld i j oi oj=some (tf,Wf,dE)) {listed:Array Bool} {ρ:Env} {a:Act} {w:World} (hrl:RelB ops.size listed m) (hzu:tb m z=false) (hrd:∀k,k∈Region.ready .any ops listed↔k=i∨k=j) (ht:aS ρ W.nx N t a) (hp:Post w0 dw Ws ws ρ W w):
 bD P .any ops (qa Q) (bW dw ws Ws.gl dE) z rb n listed a w∧((∀l e sh x,Cz T t oi.op=some (l,e,sh)→Float ws w ρ W x l e→bD P .any ops (qa Q) (bW dw ws Ws.gl dE) z rb (n - 1) (listed.setIfInBounds i true) (a.put oi.dst (qm sh x)) w)∧∀l e sh x,Cz T t oj.op=some (l,e,sh)→oj.guard=none→mJ N oj.dst=true→j≠z→Float ws w ρ W x l e→bD P .any ops (qa Q) (bW dw ws Ws.gl dE) z rb (n - 1) (listed.setIfInBounds j true) (a.put oj.dst (qm sh x)) w):=by
 have hmono:=(EB hC hX hY hF h).1;unfold flA at h
 cases hq:flB T N ops z (cu ops) m t i j oi oj with
 |false=>rw[hq] at h;cases h
 |true=>
 rw[hq] at h;simp only[cond_true] at h;unfold flB at hq;simp only[Bool.and_eq_true,Bool.not_eq_true',Option.isNone_iff_eq_none] at hq;obtain⟨⟨⟨⟨⟨⟨⟨⟨⟨hgi,hgj⟩,hdi⟩,hdj⟩,hap⟩,hiz⟩,hjz⟩,ho2⟩,hak⟩,hne2⟩:=hq;have hiz:i≠z:=fun e=>by rw[(beq_iff _ _).2 e] at hiz;cases hiz
 have hjz:j≠z:=fun e=>by rw[(beq_iff _ _).2 e] at hjz;cases hjz
 obtain⟨ap1,ap2,ap3⟩:=wY hap;obtain⟨⟨l,e,sh⟩,hal⟩:=z8.1 hak;split at h
 case h_2=>cases h
 case h_1 v W1 hv=>
 obtain⟨n',rfl⟩:∃n',n=n'+2:=⟨n - 2,zy⟩;have e1:n'+2 - 1=n'+1:=zy;rw[e1] at h ⊢;have hli:i < ops.size:=(zT.1 hoi).1;have hlj:j < ops.size:=(zT.1 hoj).1;have hij:i≠j:=fun e=>by rw[(beq_iff _ _).2 e] at hne2;cases hne2
 have hwi:∀a:Act,Region.wanted oi (yielded ops a.tmps)=true:=fun a=>by unfold Region.wanted;rw[hgi]
 have hwj:∀a:Act,Region.wanted oj (yielded ops a.tmps)=true:=fun a=>by unfold Region.wanted;rw[hgj]
 have hfm:=hp.rep.bK;have htt:aS ρ (AW.mk W.nx W.bl [] W.gl).nx N t a:=ht;have hm2:=(gN hC hX hY hF _ h).1;have iR:∀ρ' W' w',Post w0 dw Ws ws ρ' W' w'→(∀b,b∈W'.az→b∈Wf.az)→bW dw ws Ws.gl dE w':=fun ρ' W' w' hp' hmm=>hp'.stand hws hm0 hld fun c hc hcm=>hno c hc (hmm c hcm)
 have hne:Region.ready .any ops listed≠[]:=fun e=>by
  have:=(hrd i).2 (.inl rfl);rw[e] at this;cases this
 have hzi:tb (dH m i) z=false:=by rw[fO,hzu];simpa using hiz
 rw[jD _ _ (hrl.set hli)] at h;have hjr:j∈Region.ready .any ops (listed.setIfInBounds i true):=wX ((hrd j).2 (.inr rfl)) fun e=>hij e.symm
 have aeF:∀u,Cz T (dY oi.dst u t) oj.op=Cz T t oj.op:=fun u=>KS hdi ap3
 have second:∀(l:List AV) (e:TypeId) (sh:Option Nat) (x:Nat),Cz T t oj.op=some (l,e,sh)→∀(gz:Env) (w1:World),Post w0 dw Ws ws gz W w1→aS gz W.nx N t a→Float ws w1 gz W x l e→bD P .any ops (qa Q) (bW dw ws Ws.gl dE) z rb (n'+1) (listed.setIfInBounds j true) (a.put oj.dst (qm sh x)) w1:=fun l e sh x hal gz w1 hp1 ht1 hfl=>by
  refine dG (kr (hrl.set hlj) ho2) zw fun k' hk'=>?_
  obtain rfl:i=k':=by simpa [eq_comm] using hk'
  unfold wpOpIn;simp only[hoi,hwi,if_true];have hex:=wK (ops:=ops) oi (xS hsel i oi · · hoi) a oj.dst (qm sh x) fun d hd=>ap1 d hd
  have aiQ:aS gz (AW.mk W.nx W.bl [] W.gl).nx N t a:=ht1;refine ((ig hT hC hX aiQ hp1.rep.bK hv).act hex).wpIn (hnd _ _ hoi) fun dC w2 hp2 Ca=>?_
  have nW:=hp1.trans hp2.iW;refine⟨fun _=>iR _ _ _ nW hm2,?_⟩
  have hc1:(a.put oj.dst (qm sh x)).put oi.dst (cv dC v)=(a.put oi.dst (cv dC v)).put oj.dst (qm sh x):=xU a _ _ ap2;rw[hc1,yK _ _ fun e=>hij e.symm]
  exact EA hT hC hX hY hF hws hm0 hsel hnd hld hno hz hfin BG hQ hZ hoj hgj hdj hjz n' (hrl.set hli) hzi hjr (by rw[aeF];exact hal) h ((ht1.mono hp2.ext hp2.nx).put hdi Ca) nW (have hs:=hfl.step hp1.rep hp2;⟨hs.lo,hs.hi,hs.row,hs.no,hs.ok⟩)
 have first:∀(l:List AV) (e:TypeId) (sh:Option Nat) (x:Nat),Cz T t oi.op=some (l,e,sh)→Float ws w ρ W x l e→bD P .any ops (qa Q) (bW dw ws Ws.gl dE) z rb (n'+1) (listed.setIfInBounds i true) (a.put oi.dst (qm sh x)) w:=fun l e sh x anj hfl=>by
  obtain⟨_,_,k3,_⟩:=Fj anj
  have hop:uY P T call ext t ⟨W.nx,W.bl,[],W.gl⟩ oi=some (iD sh W.nx,AW.push ⟨W.nx,W.bl,[],W.gl⟩ (.cells l e none)):=by
   unfold uY;rw[k3];exact uS anj _
  rw[hop] at hv;obtain⟨rfl,rfl⟩:=zm (zq hv);have hpd:=hfl.done hws hp;have ev:cv (ρ.up W.nx x 0) (iD sh W.nx)=qm sh x:=by rw[Aa,Env.aM]
  have htd:=(ht.mono (Env.gu ρ W.nx x 0) (yY _)).put hdi (v:=iD sh W.nx) (Jf (zS _));rw[ev] at htd;exact dB hT hC hX hY hF hws hm0 hsel hnd hld hno hz hfin hQ hZ _ (hrl.set hli) hzi h htd hpd
 refine⟨?_,first,fun l e sh x hal _ _ _ hfl=>second l e sh x hal ρ w hp ht hfl⟩
 refine dG rfl hne fun k hkr=>?_
 rcases (hrd k).1 hkr with hki|hki<;>have hki:=hki.symm<;>subst hki
 ·
  unfold wpOpIn;simp only[hoi,hwi,if_true];refine (ig hT hC hX htt hfm hv).wpIn (hnd _ _ hoi) fun gz w1 hp1 Ca=>⟨fun _=>iR _ _ _ (hp.trans hp1.iW) hm2,?_⟩
  exact dB hT hC hX hY hF hws hm0 hsel hnd hld hno hz hfin hQ hZ _ (hrl.set hli) hzi h ((ht.mono hp1.ext hp1.nx).put hdi Ca) (hp.trans hp1.iW)
 ·
  unfold wpOpIn;simp only[hoj,hwj,if_true];obtain⟨gz,w1,q1,q2,q3⟩:=uH hT htt hfm (uS hal ⟨W.nx,W.bl,[],W.gl⟩);have q1:=q1.resolve_right (fun h=>by cases sh<;>cases h.2)
  have hl0:oks W.nx l:=abB (_P:=P) hal ht;have hT0:∀i,¬fV ρ ⟨W.nx,W.bl,[],W.gl⟩ (AW.push ⟨W.nx,W.bl,[],W.gl⟩ (.cells l e none)) i:=fun i ⟨b,q,_,_⟩=>by cases q
  have hg1:Gr w w1 (fun _=>False):=q2.gr.mono fun i _ h=>hT0 i h
  have hpq:=hp.trans (hp.rep.quiet hg1);have hk1:au W.nx (AW.push ⟨W.nx,W.bl,[],W.gl⟩ (.cells l e none)).bl=some (.cells l e none):=aA _ _ _
  have hxw:w.heap.size≤gz.blk W.nx:=by
   rcases zP (gz.blk W.nx) w.heap.size with hh|hh
   ·exact (hT0 _ (q2.fresh W.nx (zn _) (zS _) hh)).elim
   ·exact hh
  have hfl:Float ws w1 ρ W (gz.blk W.nx) l e:=by
   refine⟨zV hp.gr.size hxw,(q2.rep.ok _ _ hk1).2.2.2,?_,fun b k hb hx=>?_,hl0⟩
   ·have:=q2.rep.rep _ _ hk1;have hE:Ext W.nx ρ gz:=q2.ext;rw[← cz hE l hl0];exact this
   ·have:=(hp.rep.ok b k hb).2.2.2;omega
  refine⟨fun _ _=>trivial,?_⟩
  rw[xO _ _ _ (hnd _ _ hoj),q1];refine⟨fun _=>iR _ _ _ hpq fun b hb=>hmono b hb,?_⟩
  have:=second l e sh (gz.blk W.nx) hal ρ w1 hpq ht hfl;rw[Aa];exact this
theorem acW {fin:gP}(hF:cB fin)(hfin:nZ P N ops z w0 dw Ws ws Q tf Wf dE rb fin)(BG:WK P T N ops z w0 dw Ws ws Q tf Wf dE rb fin):
 nZ P N ops z w0 dw Ws ws Q tf Wf dE rb (Pe P T call ext yl N Ws.nx ops z (cu ops) fin)∧WK P T N ops z w0 dw Ws ws Q tf Wf dE rb (Pe P T call ext yl N Ws.nx ops z (cu ops) fin):=by
 have key:∀n m listed t W ld ρ a w,RelB ops.size listed m→tb m z=false→Pe P T call ext yl N Ws.nx ops z (cu ops) fin n m t W ld=some (tf,Wf,dE)→aS ρ W.nx N t a→Post w0 dw Ws ws ρ W w→
  ∃i j oi oj,ops[i]? =some oi∧ops[j]? =some oj∧(∀k,k∈Region.ready .any ops listed↔k=i∨k=j)∧2≤n∧bD P .any ops (qa Q) (bW dw ws Ws.gl dE) z rb n listed a w∧((∀l e sh x,Cz T t oi.op=some (l,e,sh)→Float ws w ρ W x l e→bD P .any ops (qa Q) (bW dw ws Ws.gl dE) z rb (n - 1) (listed.setIfInBounds i true) (a.put oi.dst (qm sh x)) w)∧∀l e sh x,Cz T t oj.op=some (l,e,sh)→oj.guard=none→mJ N oj.dst=true→j≠z→Float ws w ρ W x l e→bD P .any ops (qa Q) (bW dw ws Ws.gl dE) z rb (n - 1) (listed.setIfInBounds j true) (a.put oj.dst (qm sh x)) w):=fun n m listed t W ld ρ a w hrl hzu h ht hp=>by
  unfold Pe at h;split at h
  case h_2=>cases h
  case h_1 x y hxy=>
  have Eh:Region.ready .any ops listed=[x.1,y.1]:=by rw[← jV hrl,hxy];rfl
  split at h
  case h_2=>cases h
  case h_1 ox oy hox hoy=>
  cases hn:Nat.ble 2 n with
  |false=>rw[hn] at h;cases h
  |true=>
  rw[hn] at h;simp only[cond_true] at h;have hn:=zk hn;split at h
  ·rename_i r hr;obtain rfl:=zq h;have hrd:∀k,k∈Region.ready .any ops listed↔k=x.1∨k=y.1:=fun k=>by rw[Eh];simp
   exact⟨x.1,y.1,ox,oy,hox,hoy,hrd,hn,NI hT hC hX hY hws hm0 hsel hnd hld hno hz hQ hZ hF hfin BG hox hoy hn hr hrl hzu hrd ht hp⟩
  ·have hrd:∀k,k∈Region.ready .any ops listed↔k=y.1∨k=x.1:=fun k=>by rw[Eh];simp[or_comm]
   exact⟨y.1,x.1,oy,ox,hoy,hox,hrd,hn,NI hT hC hX hY hws hm0 hsel hnd hld hno hz hQ hZ hF hfin BG hoy hox hn h hrl hzu hrd ht hp⟩
 refine⟨fun n m listed t W ld ρ a w hrl hzu h ht hp=>?_,fun n m listed t W ld ρ a w j oj l e sh x hrl hzu hoj hgj hdj hjz hjr hal h ht hp hfl=>?_⟩
 ·obtain⟨_,_,_,_,_,_,_,_,h1,_⟩:=key n m listed t W ld ρ a w hrl hzu h ht hp;exact h1
 ·obtain⟨i,j',oi,oj',hoi,aqA,hrd,hn,_,hai,h2⟩:=key (n+1) m listed t W ld ρ a w hrl hzu h ht hp;rcases (hrd j).1 hjr with e1|e1
  ·subst e1;rw[hoi] at hoj;obtain rfl:=zq hoj;have:=hai l e sh x hal hfl;rwa [Nat.add_sub_cancel] at this
  ·subst e1;rw[aqA] at hoj;obtain rfl:=zq hoj;have:=h2 l e sh x hal hgj hdj hjz hfl;rwa [Nat.add_sub_cancel] at this
theorem Kc:∀d,nZ P N ops z w0 dw Ws ws Q tf Wf dE rb (aao P T call ext yl N Ws.nx ops z (cu ops) d)∧WK P T N ops z w0 dw Ws ws Q tf Wf dE rb (aao P T call ext yl N Ws.nx ops z (cu ops) d)
 |0=>⟨fun _ _ _ _ _ _ _ _ _ _ _ h=>(by cases h),adW⟩
 |d+1=>acW hT hC hX hY hws hm0 hsel hnd hld hno hz hQ hZ (AJ hC hX hY d) (Kc d).1 (Kc d).2
theorem EJ (d:Nat):nZ P N ops z w0 dw Ws ws Q tf Wf dE rb (VS P T call ext yl N Ws.nx ops z (cu ops) d):=fun n m listed t W ld ρ a w hrl hzu h ht hp=>by
 unfold VS orF at h;split at h
 ·rename_i r hr;obtain rfl:=zq h;exact (Kc hT hC hX hY hws hm0 hsel hnd hld hno hz hQ hZ d).1 _ _ _ _ _ _ _ _ _ hrl hzu hr ht hp
 ·exact Y3 hT hC hX hY hws hm0 hsel hnd hld hno hz hQ hZ _ _ _ _ _ _ _ _ _ hrl hzu h ht hp
end
end
def Hr (P:Program)(T:bH)(ext call:aj)(yl:fH)(N:Nat)(ops:List Oper)(z:Nat)(t:TT)(W:AW):Option (TT×AW):=
 cond (Nat.ble ops.length z) (some (t,W)) (match ops.toArray[z]? with
  |some o=>cond (mJ N o.dst) (cond (fM N t ops o) (match opY P T call ext yl t W o with
   |some (v,W')=>some (dY o.dst v t,W')
   |none=>none) (some (dY o.dst (.tuple []) t,W))) none
  |none=>none)
def Tj (P:Program)(T:bH)(ext call:aj)(yl:fH)(N:Nat):qc:=fun ops t W=>
 if Region.noSelect ops.toArray && JJ ops.toArray then
  match lF P T call ext yl (VS P T call ext yl N W.nx ops.toArray (Gd ops.toArray) (cu ops.toArray) 3) N W.nx ops.toArray (Gd ops.toArray) (cu ops.toArray) ops.length 0 t ⟨W.nx,W.bl,[],W.gl⟩ [] with
  |some (t',W',ld)=>if ld.all fun b=>!iN b W'.az && Nat.blt b W.nx && (au b W.bl).isSome then
    match Hr P T ext call yl N ops (Gd ops.toArray) t' W' with
    |some (t2,W2)=>some (t2,⟨W2.nx,W2.bl,jm W2.az W.az,W2.gl⟩)
    |none=>none
   else none
  |none=>none
 else none
section
variable {P:Program} {T:bH} {call ext:aj} {yl:fH} {N:Nat}
theorem Nl (hT:aZ P T)(hC:ai P call)(hX:dU P ext)(hY:fF P yl){ops:Array Oper}{Q:Act→World→Prop}{S:World→Prop}{z:Nat}{rb:Option Nat}(hnd:∀(j:Nat) (o:Oper),ops[j]? =some o→∀c,o.op≠ .defer c){t t2:TT}{W W2:AW}
 (h:Hr P T ext call yl N ops.toList z t W=some (t2,W2)) (hlt:z < ops.size) {w0:World} {ρ:Env} {a:Act} {w:World} (ht:aS ρ W.nx N t a) (hW:aJ w0 ρ W w) (hQ:∀ρ' a' w',Post w0 ρ W w ρ' W2 w'→aS ρ' W2.nx N t2 a'→Q a' w') {n m:Nat} {listed:Array Bool} (hrl:RelB ops.size listed m) (rU:kG m z ops.size=true) (hr:z∈Region.ready .any ops listed):
 bD P .any ops (qa Q) S z rb (n+1) listed a w:=by
 unfold Hr at h;rw[yZ,vM] at h
 have hb:Nat.ble ops.size z=false:=by
  cases hq:Nat.ble ops.size z with
  |false=>rfl
  |true=>have:=zk hq;omega
 rw[hb] at h;simp only[cond_false] at h;split at h
 case h_2=>cases h
 case h_1 o ho=>
 have hlist:∀i,i < ops.size→i≠z→listed.getD i false=true:=fun i hi hne=>by
  rw[hrl.aac];have h1:Nat.lor m (Nat.shiftLeft 1 z)=2 ^ ops.size - 1:=(beq_iff _ _).1 rU
  have h2:tb (dH m z) i=true:=by
   unfold dH;rw[h1,sH,wH]
   simpa using hi
  rw[fO] at h2
  simpa [Ne.symm hne] using h2
 have hno:∀i,listed.getD i false=true→listed.getD i true=false→False:=fun i hl h0=>by
  rw[yB] at hl h0
  cases hq:listed[i]? with
  |none=>rw[hq] at hl;cases hl
  |some b=>rw[hq] at hl h0;simp at hl h0;rw[hl] at h0;cases h0
 have ZR:∀i,i∈Region.ready .any ops listed→i=z:=fun i hi=>by
  refine xy fun hne=>?_
  exact hno i (hlist i (kg hi) hne) (wL.1 hi).1
 have hdone:Region.ready .any ops (listed.setIfInBounds z true)=[]:=by
  refine List.eq_nil_iff_forall_not_mem.2 fun i hi=>?_
  have h0:=(wL.1 hi).1;by_cases hiz:i=z
  ·subst hiz;rw[yB] at h0;by_cases hs:i < listed.size
   ·rw[yO hs] at h0
    cases h0
   ·rw[xg zu] at h0
    cases h0
  ·rw[getD_set_ne true (fun e=>hiz e.symm)] at h0
   exact hno i (hlist i (kg hi) hiz) h0
 cases hd:mJ N o.dst with
 |false=>rw[hd] at h;cases h
 |true=>
 rw[hd] at h;simp only[cond_true] at h;refine dG rfl (fun h0=>by rw[h0] at hr;cases hr) fun i hi=>?_
 obtain rfl:=ZR i hi
 have hzs:∀{p:Prop},(listed.setIfInBounds i true).getD i false=false→p:=fun {p} h=>by
  rw[yB,yO (by rw[hrl.size];exact hlt)] at h
  cases h
 unfold wpOpIn;simp only[ho];rw[fK ht]
 cases hw:fM N t ops.toList o with
 |true=>
  rw[hw] at h;simp only[cond_true] at h;split at h
  ·rename_i v W' hv;obtain⟨rfl,rfl⟩:=zm (zq h);simp only[if_true];refine YH hT hC hX hY ht hW (hnd _ _ ho) hv fun ρ' w' hp' Ca=>⟨hzs,?_⟩
   exact oI (Q:=qa Q) hdone (hQ ρ' _ w' hp' ((ht.mono hp'.ext hp'.nx).put hd Ca)) _
  ·cases h
 |false=>
  rw[hw] at h;simp only[cond_false] at h;obtain⟨rfl,rfl⟩:=zm (zq h);simp only[Bool.false_eq_true,if_false];exact⟨fun _ _=>trivial,hzs,oI (Q:=qa Q) hdone (hQ ρ _ w (Post.refl hW) (ht.put (v:=.tuple []) hd trivial)) _⟩
theorem aaP (hM:P.follows .mixedOrders=true)(hT:aZ P T)(hC:ai P call)(hX:dU P ext)(hY:fF P yl):Le P N (Tj P T ext call yl N):=fun ro id ops t W tf Wf h w0 ρ a w Q hro ht hW hQ=>by
 unfold Tj at h;rw[vM] at h;split at h
 case isFalse=>cases h
 case isTrue hsel=>
 simp only[Bool.and_eq_true] at hsel;split at h
 case h_2=>cases h
 case h_1 t' W' ld hl=>
 split at h
 case isFalse=>cases h
 case isTrue hall=>
 split at h
 case h_2=>cases h
 case h_1 t2 W2 hlast=>
 obtain⟨rfl,rfl⟩:=zm (zq h);have hld:=zY.1 hall;have h0:Post w0 ρ ⟨W.nx,W.bl,[],W.gl⟩ w ρ ⟨W.nx,W.bl,[],W.gl⟩ { w with drawn:=w.drawn+1}:=hW.bK.quiet ⟨rfl,rfl,rfl,zn _,fun _ _ _=>rfl⟩
 rw[yZ,jD _ _ (RelB.start ops.size)] at hl;have hnd:=ug hsel.2
 have hany:wpAnyIn (fw (ro.map ρ.blk)) 0 P .any ops (qa fun a' w'=>Q .normal a' w') ops.size (Array.replicate ops.size false) a { w with drawn:=w.drawn+1}:=by
  refine ni (S:=bW ρ w W.gl ld) (z:=Gd ops) _ _ _ _ ?_
  have Ej:∀c,c∈ld→c < W.nx∧(au c W.bl).isSome=true:=fun c hc=>by
   have:=hld c hc;simp only[Bool.and_eq_true] at this;exact⟨aK this.1.2,this.2⟩
  have hno':∀c,c∈ld→c ∉ W'.az:=fun c hc=>by
   have:=hld c hc;simp only[Bool.and_eq_true,Bool.not_eq_true'] at this;exact nH this.1.1
  have hz:ZOk ops (Gd ops):=Lv ops
  have hQ0:ops.size≤Gd ops→∀ρ' a' w',Post w0 ρ ⟨W.nx,W.bl,[],W.gl⟩ w ρ' W' w'→aS ρ' W'.nx N t' a'→Q .normal a' w':=fun hge ρ' a' w' hp ht'=>by
   unfold Hr at hlast;rw[yZ,yF hge] at hlast;simp only[cond_true] at hlast;obtain⟨rfl,rfl⟩:=zm (zq hlast);exact hQ ρ' a' w' hp.iW ht'
  have hZ0:∀n listed m ρ' a' w',RelB ops.size listed m→kG m (Gd ops) ops.size=true→Gd ops∈Region.ready .any ops listed→Post w0 ρ ⟨W.nx,W.bl,[],W.gl⟩ w ρ' W' w'→aS ρ' W'.nx N t' a'→bD P .any ops (qa fun a' w'=>Q .normal a' w') (bW ρ w W.gl ld) (Gd ops) (ro.map ρ.blk) (n+1) listed a' w':=fun n listed m ρ' a' w' hrl rU hr hp ht'=>
   Nl hT hC hX hY hnd hlast (kg hr) ht' hp.rep (fun dC a2 w2 hp2 ht2=>hQ dC a2 w2 (hp.trans hp2).iW ht2) hrl rU hr
  exact dB hT hC hX hY (AL hC hX hY 3) (Ws:=⟨W.nx,W.bl,[],W.gl⟩) hW.bK rfl hsel.1 hnd Ej hno' hz (EJ hT hC hX hY (Ws:=⟨W.nx,W.bl,[],W.gl⟩) hW.bK rfl hsel.1 hnd Ej hno' hz hQ0 hZ0 3) hQ0 hZ0 ops.size (RelB.start ops.size) (by rw[sH];exact Nat.zero_testBit _) hl ht h0
 have aiR:(Code.region id ops true).wpIn (fw (ro.map ρ.blk)) 0 P (qa fun a' w'=>Q .normal a' w') a w:=wpIn_region_any hM hany
 refine wpIn_mono aiR fun e a' w' hq=>?_
 cases e<;>first|exact hq|exact hq.elim
end
end Ex
namespace Ex
open Go.RowKit
def aho (P:Program)(t:Nat):Nat:=match P.info? t with|some i=>i.size|none=>0
def arq (P:Program)(t:Nat):Nat:=match P.info? t with|some i=>i.bytes|none=>0
def kdD (P:Program):TypeDesc→Kd
 | .struct fields=>.struct (fields.toList.map fun f=>(f.offset,f.type,aho P f.type))
 | .array n e=>.array n e (aho P e)
 | .slice e=>.slice e (aho P e) (arq P e)
 | .map k e=>.map k e
 | .string=>.string
 | .pointer e=>.ptr e
 | .int k=>.int k
 | .unsafePointer=>.LG
 | .func .. =>.func
 |_=>.other
def JU:Value→Bool | .agg _=>true|_=>false
def Pg (P:Program)(t:Nat):Option su:=match P.underlying t,P.info? t with
 |some d,some f=>match f.zero with
  |some z=>if Hu P d (kdD P d) && (cond d.isRow (JU z) z.oneCell') then some ⟨kdD P d,d.isRow,f.size,z.cells.toList⟩ else none
  |none=>none
 |_,_=>none
theorem Uq {P:Program}{t:Nat}{i:su}(h:Pg P t=some i):oC P t i:=by
 unfold Pg at h;split at h
 ·rename_i d f hd hf;split at h
  ·rename_i z hz;split at h
   ·rename_i hk;simp only[Bool.and_eq_true] at hk;obtain rfl:=zq h;refine⟨⟨d,hd,rfl,hk.1⟩,⟨f,z,hf,rfl,hz,rfl⟩,fun hr=>⟨f,z,hf,hz,?_⟩,fun hr=>⟨f,hf,?_⟩⟩
    ·have h2:=hk.2;rw[show d.isRow=false from hr] at h2
     show z.cells.toList=[z]
     cases z<;>first|rfl|(simp[Value.oneCell'] at h2;done)
    ·have h2:=hk.2;rw[show d.isRow=true from hr] at h2
     cases z<;>first|(rw[hz];rfl)|(simp[JU] at h2;done)
   ·cases h
  ·cases h
 ·cases h
def XC (P:Program):List Nat→List (Nat×su)
 |[]=>[]
 |t::l=>match Pg P t with
  |some i=>(t,i)::XC P l
  |none=>XC P l
def afS (P:Program)(l:List Nat):bH:=ahg (XC P l)
theorem I8 (P:Program):∀l t i,(t,i)∈XC P l→oC P t i
 |[],t,i,h=>by cases h
 |x::l,t,i,h=>by
  simp only[XC] at h;split at h
  ·rename_i j hj;rcases zQ.1 h with e|h
   ·obtain⟨rfl,rfl⟩:=zm e;exact Uq hj
   ·exact I8 P l t i h
  ·exact I8 P l t i h
theorem XB (P:Program)(l:List Nat):aZ P (afS P l):=fun t i h=>I8 P l t i (LK h)
def MS (g:Nat)(f:List AV→Option AV):aj:=fun g' args W=>cond (Nat.beq g' g) (match f args with|some v=>some (v,W)|none=>none) none
theorem JF {P:Program}{g:Nat}{fn:Func}{f:List AV→Option AV}(h1:P.funcs[g]? =some fn)(h2:(fn.name == "runtime.NumGoroutine")=false)(h3:fn.body.isSome=true)
 (h:∀args v,f args=some v→(∀n,v.ok n)∧∀(ρ:Env) (w:World),Calls P g (aH ρ args).toArray w fun e w'=>e= .returned (cv ρ v)∧Below w.heap.size w w'):ai P (MS g f):=fun g' args W v W' hc=>by
 unfold MS at hc
 cases hg:Nat.beq g' g with
 |false=>rw[hg] at hc;cases hc
 |true=>
 rw[hg] at hc;obtain rfl:=(beq_iff _ _).1 hg;simp only[cond_true] at hc;split at hc
 ·rename_i u hu;obtain⟨rfl,rfl⟩:=zm (zq hc);obtain⟨ho,hcall⟩:=h args u hu;refine⟨⟨fn,h1,h2,h3⟩,fun _ hb=>hb,fun w0 ρ w _ hW=>(hcall ρ w).mono ?_⟩
  rintro e w' ⟨rfl,hb⟩;exact⟨ρ,rfl,hW.quiet ⟨hb.os,hb.tape,hb.output,hb.size,fun i hi _=>hb.block i hi⟩,ho _⟩
 ·cases hc
def qX (S S':aj):aj:=fun g args W=>match S g args W with|some r=>some r|none=>S' g args W
theorem bN {P:Program}{S S':aj}(h:ai P S)(h':ai P S'):ai P (qX S S'):=fun g args W v W' hc=>by
 unfold qX at hc;split at hc
 ·rename_i r hr;obtain rfl:=zq hc;exact h _ _ _ _ _ hr
 ·exact h' _ _ _ _ _ hc
def up8 (c:Nat):Nat:=let d:=bO c;cond (Nat.ble 97 d) (cond (Nat.ble d 122) (d - 32) d) d
def O9:List AV→Option AV
 |[.str l]=>cond (Nat.ble l.length 1099511627776) (some (.str (l.map up8))) none
 |_=>none
theorem acS (c:Nat):UInt8.ofNat (up8 c)=gQ (UInt8.ofNat c):=by
 have hl:(UInt8.ofNat c).toNat=bO c:=by simp[bO]
 have hlt:bO c < 256:=Nat.mod_lt _ zy;apply xM.1;unfold up8 gQ;dsimp only;rw[hl];by_cases h1:97≤bO c
 ·rw[yF h1];by_cases h2:bO c≤122
  ·rw[yF h2,zW ⟨h1,h2⟩,UInt8.toNat_sub_of_le _ _ (UInt8.le_iff_toNat_le.2 (by rw[hl];exact zV zx h1)),hl]
   simp;omega
  ·have:Nat.ble (bO c) 122=false:=by
    cases h:Nat.ble (bO c) 122
    ·rfl
    ·exact absurd (zk h) h2
   rw[this,za zy,hl];simp;omega
 ·have:Nat.ble 97 (bO c)=false:=by
   cases h:Nat.ble 97 (bO c)
   ·rfl
   ·exact absurd (zk h) h1
  rw[this,za zy,hl];simp;omega
theorem Xj:ai Tryz.prog (MS 45 O9):=JF Tryz.func45 zx zz fun args v h=>by
 unfold O9 at h;split at h
 case h_2=>cases h
 case h_1 l=>
 cases hl:Nat.ble l.length 1099511627776 with
 |false=>rw[hl] at h;cases h
 |true=>
 rw[hl] at h;obtain rfl:=zq h;have hl:=zk hl;refine⟨fun n=>trivial,fun ρ w=>(jU (ag l) w (by rw[aC];simp only[maxLen];omega)).mono ?_⟩
 rintro e w' ⟨rfl,hb⟩;refine⟨?_,hb⟩
 have:(⟨((ag l).data.toList.map gQ).toArray⟩:ByteArray)=ag (l.map up8):=by
  simp only[ag,List.map_map]
  congr 2
  exact yt fun c _=>(acS c).symm
 rw[this];rfl
end Ex
section
open Go.RowKit Go.Shelf
theorem acV (x k idx:Nat)(w:World)(hx0:((x:Int) == 0)=false)
 (key:IntKind.u64.wrap (bits BinOp.and IntKind.u64 (x:Int) (IntKind.u64.wrap (-(x:Int))) * 285870213051353865) / 288230376151711744=(idx:Int))
 (hi:idx < 64) (hk:k < 64) (hcell:w.cell? ⟨1,idx,none⟩=some (.int .u8 k)):
 Calls Tryz.prog 60 #[.int .u64 x] w fun e w'=>e= .returned (.int .i64 k)∧w=w':=by
 go_enter Tryz.func60,Tryz.ntmps60
 go_wp2_with (simp only[key])
 go_ret;exact⟨rfl,rfl⟩
theorem Xn (x:Nat)(hx:x < 18446744073709551616)(hx0:0 < x)(w:World)(hT:TabAt 1 Lib.deBruijn64tab w):
 Calls Tryz.prog 60 #[.int .u64 x] w fun e w'=>e= .returned (.int .i64 (Lib.ctz 64 x))∧w=w':=by
 obtain⟨hlow,hk⟩:=Lib.lowest_bit 64 x zy hx;obtain⟨hi,htab⟩:=Lib.deBruijn64_at _ hk;have hcell:=hT _ hi;rw[htab] at hcell;exact acV x _ _ w zu (tz64_key x _ hx zy hlow) hi hk hcell
def top:Nat:=65536
theorem G7 {T:Nat→Bool}{a k:Nat}(h1:a≤k)(hn:∀x,a≤x→x < k→T x=false)(hk:¬(k:Int) < 65536)(h2:k≤65536):JG T a=65536:=
 Ak ⟨zy,zn _,fun x g1 g2=>hn x g1 zy,fun h=>absurd h zy⟩
theorem G8 {S:Nat→Bool}{a k q:Nat}(h1:a≤k)(hn:∀x,a≤x→x < k→S x=false)(hk:(k:Int) < 65536)(hq:wd S (k / 64) / 2 ^ (k % 64)=q)(h0:0 < q):
 JG S a=k+Lib.ctz 64 q∧k+Lib.ctz 64 q < 65536:=by
 have aqs:q < 2 ^ 64:=by
  rw[← hq];have h2:=Rp S (k / 64);have h3:wd S (k / 64) / 2 ^ (k % 64)≤wd S (k / 64):=Nat.div_le_self _ _;have h4:(2:Nat) ^ 64=18446744073709551616:=zx;omega
 obtain⟨m,hm,hlt⟩:=Lib.ctzFrom_spec 64 q h0 aqs;have e:Lib.ctz 64 q=Lib.ctzFrom 64 q:=by unfold Lib.ctz;rw[za zy]
 rw[e];obtain⟨c1,c2,c3⟩:=L9 S k (Lib.ctzFrom 64 q) q m hq hm;have hlt2:k+Lib.ctzFrom 64 q < 65536:=zy;refine⟨Ak ⟨zy,zy,fun x g1 g2=>?_,fun _=>c2⟩,hlt2⟩
 by_cases hx:x < k
 ·exact hn x g1 hx
 ·exact c3 x zy g2
theorem word_lt {S:Nat→Bool}{k q:Nat}(hq:wd S (k / 64) / 2 ^ (k % 64)=q):q < 18446744073709551616:=by
 rw[← hq];exact Nat.lt_of_le_of_lt (Nat.div_le_self _ _) (Rp S _)
theorem o8 (b:Nat)(S:Nat→Bool)(a:Nat)(w:World)(ha:a≤65536)
 (hw:∀k,k < 1024→w.cell? ⟨b,k,none⟩=some (.int .u64 (wd S k))) (hT:TabAt 1 Lib.deBruijn64tab w):
 Calls Tryz.prog 22 #[.pointer (some ⟨b,0,none⟩),.int .i64 a,.bool true] w fun e w'=>e= .returned (.int .i64 (JG S a))∧w=w':=by
 go_enter Tryz.func22,Tryz.ntmps22;go_wp2
 go_loop [1,7] (fun v u=>∃k:Nat,a≤k∧k≤65536∧v= .int .i64 k∧Hid (∀x,a≤x→x < k→S x=false)) (fun v _=>top - (intOf v).toNat)
 case atStart=>exact⟨a,zn _,ha,rfl,fun x h1 h2=>zy⟩
 case round=>
  obtain⟨k,h1,h2,rfl,hn⟩:=hrel;have H1:=zo h1;have H2:=zo h2;have HA:=zo ha;have HT:=zo hT;clear hT;by_cases hlt:(k:Int) < 65536
  ·have hc:=hw (k / 64) zy;clear hw;obtain⟨q,hq⟩:∃q:Nat,wd S (k / 64) / 2 ^ (k % 64)=q:=⟨_,rfl⟩;have hq':((wd S (k / 64):Nat):Int) / 2 ^ (k % 64)=(q:Int):=by rw[← hq];simp
   by_cases hq0:q=0
   ·subst hq0;have hno:=zo (Dl S k hq);clear h1 h2 ha hq;go_wp2;have g1:=H1.out;have g2:=H2.out;refine⟨⟨(k / 64+1) * 64,zy,zy,by go_num,fun x y1 y2=>?_⟩,by unfold top;simp only[intOf];omega⟩
    by_cases hx:x < k
    ·exact hn.out x y1 hx
    ·exact hno.out x zy y2
   ·have h0:0 < q:=zy;obtain⟨f1,f2⟩:=G8 h1 hn.out hlt hq h0;have HQ:=zo (word_lt hq);have HF:=zo f1;have hcb:0≤((Lib.ctz 64 q:Nat):Int):=zy;have hkb:(k:Int)+(Lib.ctz 64 q:Nat) < 65536:=zy;clear h1 h2 ha hn f1 f2;have hne:((q:Int) != 0)=true:=by simp;omega
    clear hq hq0
    go_wp2_with (go_at_call 60;refine (Xn q HQ.out h0 _ HT.out).mono ?_;rintro e w' ⟨rfl,rfl⟩)
    go_ret;exact⟨iA (by rw[HF.out];simp),rfl⟩
  ·clear h1 h2 ha hw;go_wp2;go_ret;exact⟨iA (by rw[G7 H1.out hn.out zy H2.out];rfl),rfl⟩
theorem ag9 (S:Nat→Bool)(k:Nat):bits BinOp.xor IntKind.u64 (if IntKind.u64.signed=true then -1 else IntKind.u64.max) ((wd S k:Nat):Int)=((wd (fun x=>!S x) k:Nat):Int):=by
 have e1:(if IntKind.u64.signed=true then -1 else IntKind.u64.max)=((18446744073709551615:Nat):Int):=by simp[IntKind.signed,IntKind.max,IntKind.bits]
 rw[e1,bits_xor_u64_nat _ _ zx (Rp S k)]
 congr 1
 apply xA;intro j;rw[Nat.testBit_xor,jF,jF,show (18446744073709551615:Nat)=2 ^ 64 - 1 from by decide,wH]
 by_cases hj:j < 64<;>simp[hj]
theorem JK (b:Nat)(S S':Nat→Bool)(a:Nat)(w:World)(ha:a≤65536)(hX:∀k,bits BinOp.xor IntKind.u64 (if IntKind.u64.signed=true then -1 else IntKind.u64.max) ((wd S k:Nat):Int)=((wd S' k:Nat):Int))
 (hw:∀k,k < 1024→w.cell? ⟨b,k,none⟩=some (.int .u64 (wd S k))) (hT:TabAt 1 Lib.deBruijn64tab w):
 Calls Tryz.prog 22 #[.pointer (some ⟨b,0,none⟩),.int .i64 a,.bool false] w fun e w'=>e= .returned (.int .i64 (JG S' a))∧w=w':=by
 go_enter Tryz.func22,Tryz.ntmps22;go_wp2
 go_loop [1,7] (fun v u=>∃k:Nat,a≤k∧k≤65536∧v= .int .i64 k∧Hid (∀x,a≤x→x < k→S' x=false)) (fun v _=>top - (intOf v).toNat)
 case atStart=>exact⟨a,zn _,ha,rfl,fun x h1 h2=>zy⟩
 case round=>
  obtain⟨k,h1,h2,rfl,hn⟩:=hrel;have H1:=zo h1;have H2:=zo h2;have HA:=zo ha;have HT:=zo hT;clear hT;by_cases hlt:(k:Int) < 65536
  ·have hc:=hw (k / 64) zy;clear hw;have auC:=hX (k / 64);clear hX;obtain⟨q,hq⟩:∃q:Nat,wd S' (k / 64) / 2 ^ (k % 64)=q:=⟨_,rfl⟩;have hq':((wd S' (k / 64):Nat):Int) / 2 ^ (k % 64)=(q:Int):=by rw[← hq];simp
   by_cases hq0:q=0
   ·subst hq0;have hno:=zo (Dl S' k hq);clear h1 h2 ha hq;go_wp2;have g1:=H1.out;have g2:=H2.out;refine⟨⟨(k / 64+1) * 64,zy,zy,by go_num,fun x y1 y2=>?_⟩,by unfold top;simp only[intOf];omega⟩
    by_cases hx:x < k
    ·exact hn.out x y1 hx
    ·exact hno.out x zy y2
   ·have h0:0 < q:=zy;obtain⟨f1,f2⟩:=G8 h1 hn.out hlt hq h0;have HQ:=zo (word_lt hq);have HF:=zo f1;have hcb:0≤((Lib.ctz 64 q:Nat):Int):=zy;have hkb:(k:Int)+(Lib.ctz 64 q:Nat) < 65536:=zy;clear h1 h2 ha hn f1 f2;have hne:((q:Int) != 0)=true:=by simp;omega
    clear hq hq0
    go_wp2_with (go_at_call 60;refine (Xn q HQ.out h0 _ HT.out).mono ?_;rintro e w' ⟨rfl,rfl⟩)
    go_ret;exact⟨iA (by rw[HF.out];simp),rfl⟩
  ·clear h1 h2 ha hw;go_wp2;go_ret;exact⟨iA (by rw[G7 H1.out hn.out zy H2.out];rfl),rfl⟩
theorem Sj (b:Nat)(S:Nat→Bool)(a:Nat)(w:World)(ha:a≤65536)
 (hw:∀k,k < 1024→w.cell? ⟨b,k,none⟩=some (.int .u64 (wd S k))) (hT:TabAt 1 Lib.deBruijn64tab w):
 Calls Tryz.prog 22 #[.pointer (some ⟨b,0,none⟩),.int .i64 a,.bool false] w fun e w'=>e= .returned (.int .i64 (JG (fun x=>!S x) a))∧w=w':=
 JK b S _ a w ha (ag9 S) hw hT
def oD (w:World)(b:Nat)(S:Nat→Bool)(n:Nat)(D:Nat→UInt8):Prop:=∃cs,w.heap[b]? =some (.cells cs 79 (0,0))∧abS cs S n D
section
variable {w w':World} {b n:Nat} {S:Nat→Bool} {D:Nat→UInt8}
theorem oD.word (h:oD w b S n D):∀k,k < 1024→w.cell? ⟨b,k,none⟩=some (.int .u64 (wd S k)):=fun k hk=>by
 obtain⟨cs,hb,hi⟩:=h
 simpa [World.cell?,hb] using hi.words k hk
theorem oD.count (h:oD w b S n D):w.cell? ⟨b,1024,none⟩=some (.int .i64 n):=by
 obtain⟨cs,hb,hi⟩:=h
 simpa [World.cell?,hb] using hi.count
theorem oD.byte (h:oD w b S n D):∀a,a < 65536→w.cell? ⟨b,1025+a,none⟩=some (.int .u8 (D a).toNat):=fun k hk=>by
 obtain⟨cs,hb,hi⟩:=h
 simpa [World.cell?,hb] using hi.bytes k hk
theorem oD.free (h:oD w b S n D)(k:Nat):w.frozen? ⟨b,k,none⟩=false:=by
 obtain⟨cs,hb,hi⟩:=h;simp[World.frozen?,hb]
theorem oD.lt (h:oD w b S n D):b < w.heap.size:=by
 obtain⟨cs,hb,_⟩:=h;rcases zP b w.heap.size with hlt|hge
 ·exact hlt
 ·rw[xg hge] at hb;cases hb
theorem heap_set {cs:Array Value}{t:TypeId}(h:w.heap[b]? =some (.cells cs t (0,0)))(k:Nat)(u:Value):
 (w.setCell ⟨b,k,none⟩ u).heap[b]? =some (.cells (cs.setIfInBounds k u) t (0,0)):=by
 simp[World.setCell,Array.getElem?_modify,h]
theorem oD.add (h:oD w b S n D)(a:Nat)(ha:a < 65536):
 oD ((w.setCell ⟨b,a / 64,none⟩ (.int .u64 (wd (ins S a) (a / 64)))).setCell ⟨b,1024,none⟩ (.int .i64 (n+1))) b (ins S a) (n+1) D:=by
 obtain⟨cs,hb,hi⟩:=h;refine⟨_,heap_set (heap_set hb _ _) _ _,?_,fun k hk=>?_,?_,fun x hx=>?_⟩
 ·simp[hi.size]
 ·rw[yU zy];by_cases he:a / 64=k
  ·subst he;rw[yO (by rw[hi.size];omega)]
  ·rw[yU he,hi.words k hk,Ub S a k (fun e=>he e.symm)]
 ·rw[yO (by simp[hi.size])]
  simp
 ·rw[yU zy,yU zy,hi.bytes x hx]
end
theorem ak2 (S:Nat→Bool)(a:Nat):bits BinOp.or IntKind.u64 ((wd S (a / 64):Nat):Int) (IntKind.u64.wrap (2 ^ (a % 64)))=((wd (ins S a) (a / 64):Nat):Int):=by
 have e:(2:Int) ^ (a % 64)=((2 ^ (a % 64):Nat):Int):=zw
 have h2:2 ^ (a % 64) < 18446744073709551616:=by
  have h:(2:Nat) ^ (a % 64) < 2 ^ 64:=Nat.pow_lt_pow_right zx zy
  simpa using h
 have e3:IntKind.u64.wrap (2 ^ (a % 64))=((2 ^ (a % 64):Nat):Int):=by
  rw[e,IntKind.wrap_u64];generalize 2 ^ (a % 64)=m at h2 ⊢;omega
 rw[e3,bits_or_u64_nat _ _ (Rp S _) h2,aha]
theorem afw (b n:Nat)(S:Nat→Bool)(D:Nat→UInt8)(a:Nat)(w:World)(ha:(a:Int) < 65536)(hn:(n:Int)≤65536)(hI:oD w b S n D):
 Calls Tryz.prog 23 #[.pointer (some ⟨b,0,none⟩),.int .i64 a] w fun e w'=>e= .returned (.tuple #[])∧oD w' b (ins S a) (n+1) D∧w.grownBy w' (some b):=by
 have hc:=hI.word (a / 64) zy;have hk:=hI.count;have f1:=hI.free (a / 64);have f2:=hI.free 1024;have HI:=zo (hI.add a zy);clear hI;go_enter Tryz.func23,Tryz.ntmps23;go_wp2
 go_region
 all_goals go_wp2
 all_goals go_end0
 all_goals
  rw[ak2];exact⟨rfl,HI.out,grownBy_drew (grownBy_trans (grownBy_set w _ _ _) (grownBy_set _ _ _ _))⟩
def QU:List Value→Bool
 |[]=>true
 | .int .u8 0::r=>QU r
 |_::_=>false
def KC:Nat→List Value→Bool
 |0,.int .i64 0::r=>QU r
 |n+1,.int .u64 0::r=>KC n r
 |_,_=>false
theorem Oj:∀(l:List Value),QU l=true→∀j,j < l.length→l[j]? =some (.int .u8 0)
 | .int .u8 0::r,h,0,_=>rfl
 | .int .u8 0::r,h,j+1,hj=>by
   have:=Oj r (by simpa [QU] using h) j (by simpa using hj)
   simpa using this
theorem Oh:∀(n:Nat) (l:List Value),KC n l=true→(∀j,j < n→l[j]? =some (.int .u64 0))∧l[n]? =some (.int .i64 0)∧∀j,n+1+j < l.length→l[n+1+j]? =some (.int .u8 0)
 |0,.int .i64 0::r,h=>⟨fun j hj=>absurd hj (yf _),rfl,fun j hj=>by
  have:=Oj r (by simpa [KC] using h) j (by simp at hj;omega)
  rw[yD,Nat.add_comm 1 j]
  simpa using this⟩
 |n+1,.int .u64 0::r,h=>by
  obtain⟨h1,h2,h3⟩:=Oh n r (by simpa [KC] using h)
  refine⟨fun j hj=>?_,by simpa using h2,fun j hj=>?_⟩
  ·cases j with
   |zero=>rfl
   |succ j=>simpa using h1 j zy
  ·have e:n+1+1+j=(n+1+j)+1:=zy;rw[e] at hj ⊢;have:=h3 j (by simpa using hj)
   simpa using this
theorem afj:(Tryz.prog.built 79 []).map (fun c=>(c.size == 66561,KC 1024 c.toList))=some (true,true):=by kernel_rfl
theorem Vd:∃c,Tryz.prog.built 79 []=some c∧abS c (fun _=>false) 0 (fun _=>0):=by
 have h:=afj
 cases hb:Tryz.prog.built 79 [] with
 |none=>rw[hb] at h;cases h
 |some c=>
  rw[hb] at h;simp only[Option.map_some,Option.some.injEq,Prod.mk.injEq,beq_iff_eq] at h;obtain⟨h1,h2,h3⟩:=Oh _ _ h.2;refine⟨c,rfl,h.1,fun k hk=>?_,by simpa using h2,fun a ha=>?_⟩
  ·have:=h1 k hk;rw[acK]
   simpa using this
  ·have:=h3 a (by simp[h.1];omega)
   simpa using this
theorem wpList_build {P:Program}{w:World}{ops:Array Oper}{rest:List Oper}{o:Oper}{a:Act}{Q:Exit→Act→World→Prop}(hgd:o.guard=none)(t:TypeId)(ho:o.op= .build t #[])(cells:Array Value)
 (hf:P.built t []=some cells) (h:wpList P ops Q rest (a.put o.dst (.agg cells)) w):wpList P ops Q (o::rest) a w:=by
 refine wpList_plain hgd fun K hK=>?_
 have hr:=run_build w t #[] cells hf;unfold Oper.wp execOp;simp only[ho,Sem.run_bind];simp[hr];exact hK _ _ h
theorem Sk (w:World):Calls Tryz.prog 9 #[] w fun e w'=>e= .returned (.pointer (some ⟨w.heap.size,0,none⟩))∧oD w' w.heap.size (fun _=>false) 0 (fun _=>0)∧Below w.heap.size w w':=by
 obtain⟨c,hc,hi⟩:=Vd;go_enter Tryz.func9,Tryz.ntmps9
 go_wp2_with (refine wpList_build rfl 79 rfl c hc ?_)
 go_ret;exact⟨rfl,⟨c,yJ w _,hi⟩,(zh _ _).alloc (zn _) _⟩
def BX (S:Nat→Bool)(a n:Nat):Nat→Bool:=fun x=>S x || (decide (a≤x) && decide (x < a+n))
theorem VD (S:Nat→Bool)(a:Nat):BX S a 0=S:=by
 funext x
 simp only[BX,Nat.add_zero];have:(decide (a≤x) && decide (x < a))=false:=zw;rw[this,Bool.or_false]
theorem VE (S:Nat→Bool)(a n:Nat):ins (BX S a n) (a+n)=BX S a (n+1):=by
 funext x
 simp only[ins,BX,Bool.or_assoc]
 congr 1
 rw[yX];simp;omega
def wr (D:Nat→UInt8)(a:Nat)(l:List UInt8):Nat→UInt8:=fun x=>if a≤x then (l[x - a]?).getD (D x) else D x
theorem ag6 (D:Nat→UInt8)(a:Nat):wr D a []=D:=by
 funext x
 simp[wr]
section
variable {P:Program} {w:World}
theorem oD.wr {g n:Nat}{S:Nat→Bool}{D:Nat→UInt8}(h:oD w g S n D)(a:Nat)(l:List UInt8)(hal:a+l.length≤65536)(cur:Array Value)(hg:w.heap[g]? =some (.cells cur 79 (0,0))):
 oD (w.setRow g (cur.toList.take (1025+a)++bs l++cur.toList.drop (1025+a+(bs l).length)).toArray) g S n (wr D a l):=by
 obtain⟨cs,hb,hi⟩:=h;rw[hg] at hb;obtain rfl:cur=cs:=by injection hb with hb;injection hb
 refine⟨_,setRow_heap w g _ _ _ _ hg,?_⟩;have hs:=hi.size
 have key:∀j,(cur.toList.take (1025+a)++bs l++cur.toList.drop (1025+a+(bs l).length)).toArray[j]? =if 1025+a≤j∧j < 1025+a+l.length then (bs l)[j - (1025+a)]? else cur[j]?:=by
  intro j;rw[vT,yc];by_cases h1:j < 1025+a
  ·rw[xz (by rw[zJ,yZ];omega),za zy,yj,zW h1,xZ]
  ·rw[yR (by rw[zJ,yZ];omega)]
   have e:(cur.toList.take (1025+a)).length=1025+a:=by rw[zJ,yZ];omega
   rw[e];by_cases h2:j < 1025+a+l.length
   ·rw[zW ⟨zy,h2⟩,xz (by rw[aQ];omega)]
   ·rw[za zy,yR (by rw[aQ];omega),yg,aQ,xZ]
    congr 1
    omega
 refine⟨?_,fun k hk=>?_,?_,fun x hx=>?_⟩
 ·simp only[List.size_toArray,List.length_append,List.length_take,List.length_drop,Array.length_toList,aQ];omega
 ·rw[key,za zy];exact hi.words k hk
 ·rw[key,za zy];exact hi.count
 ·rw[key];unfold YtpjjgpjhpobkiaaGreatDoor.wr;by_cases h1:a≤x
  ·by_cases h2:x < a+l.length
   ·have e:1025+x - (1025+a)=x - a:=zy;rw[zW ⟨zy,zy⟩,zW h1,e,zg (by rw[aQ];omega),Fb,zg zy]
    rfl
   ·rw[za zy,zW h1,yo zy];exact hi.bytes x hx
  ·rw[za zy,za h1];exact hi.bytes x hx
theorem Eu (w:World)(g:Nat)(cs:Array Value):w.grownBy (w.setRow g cs) (some g):=
 ⟨rfl,rfl,rfl,zw,fun k _ hk=>setRow_other w g k cs (fun e=>hk (by rw[e]))⟩
theorem BR {ops:Array Oper}{rest:List Oper}{o:Oper}{a:Act}{Q:Exit→Act→World→Prop}(hgd:o.guard=none)(d s:Operand)(dT sT elem:TypeId)
 (ho:o.op= .call { callee:=.builtin .copy,args:=#[d,s],argTypes:=#[dT,sT]}) (hu:P.underlying dT=some (.slice elem)) (hsz:(P.info? elem).map (·.size)=some 1)
 (g n at_ dLen dCap sCap:Nat) (S:Nat→Bool) (D:Nat→UInt8) (A:Option Addr) (l:List UInt8) (p:Nat→Prop)
 (hd:a.eval d= .slice (some ⟨g,1025+at_,none⟩) dLen dCap) (hs:a.eval s= .slice A l.length sCap) (hI:oD w g S n D) (hR:Rd w p A (bs l)) (hl:l.length≤dLen) (hfit:at_+l.length≤65536)
 (h:∀w',oD w' g S n (wr D at_ l)→w.grownBy w' (some g)→wpList P ops Q rest (a.put o.dst (goInt l.length)) w'):wpList P ops Q (o::rest) a w:=by
 by_cases h0:l=[]
 ·subst h0;refine wpList_copy_nothing hgd d s dT sT ho elem hu hsz _ A dLen dCap 0 sCap hd hs (wJ (zF _)) ?_;exact h w (by rw[ag6];exact hI) (World.grownBy.refl w _)
 ·obtain⟨ad,rfl,_,hsrc⟩:=hR (by simpa [bs] using h0)
  obtain⟨cur,hg,hi⟩:=id hI;refine wpList_plain hgd fun K hK=>?_
  have hn:(bs l).length=Nat.min l.length dLen:=by rw[aQ];exact (wJ hl).symm
  have hrun:=run_copy_row (P:=P) w dT sT o.type elem g (1025+at_) dLen dCap ad l.length sCap cur 79 (bs l) hu hsz hg hn hsrc (by rw[hi.size,aQ];omega) (Fa l)
  unfold Oper.wp;simp[execOp,ho,resolve,invoke,builtin,hd,hs,hrun,Result.andThen];have h2:=hK _ _ (h _ (hI.wr at_ l hfit cur hg) (Eu w g _));simp[aQ] at h2;simp only[aQ];exact h2
end
theorem Gz (g off a h r q:Nat)(w:World)(lo hi:Option Value)(hlo:lo=none∧a=0∨lo=some (.int .i64 (a:Int)))(hhi:hi=none∧h=65536∨hi=some (.int .i64 (h:Int)))
 (hah:a≤h) (hh:h≤65536) (ha:a < 65536) (hr:h=a+r) (hq:a+q=65536):
 (Instr.sliceAt 77 (.pointer (some ⟨g,off,none⟩)) lo hi none).run Tryz.prog w= .ok (.slice (some ⟨g,off+a,none⟩) r q) w:=by
 have e1:h - a=r:=zy;have e2:65536 - a=q:=zy;have e3:¬65536=a:=zy;have hs:∀w,(sizeOf 5).run Tryz.prog w= .ok 1 w:=fun w=>by kernel_rfl
 have hadd:(⟨g,off,none⟩:Addr).add a=⟨g,off+a,none⟩:=by
  unfold Addr.add;split
  ·rename_i h0;subst h0;rfl
  ·rfl
 have b1:∀y (code:BoundsCode),a≤y→(Instr.sliceBound (.int .i64 (a:Int)) y code).run Tryz.prog w= .ok a w:=fun y code hy=>by
  have c1:(0:Int)≤(a:Int)∧(a:Int)≤(y:Int):=⟨zy,zy⟩;simp only[Instr.sliceBound,asIntOf,Sem.run_bind,Sem.run_pure,Result.andThen_ok,if_pos c1,Int.toNat_natCast]
 have b2:∀y (code:BoundsCode),h≤y→(Instr.sliceBound (.int .i64 (h:Int)) y code).run Tryz.prog w= .ok h w:=fun y code hy=>by
  have c1:(0:Int)≤(h:Int)∧(h:Int)≤(y:Int):=⟨zy,zy⟩;simp only[Instr.sliceBound,asIntOf,Sem.run_bind,Sem.run_pure,Result.andThen_ok,if_pos c1,Int.toNat_natCast]
 have hb:(Instr.sliceBounds false 65536 65536 lo hi none).run Tryz.prog w= .ok (a,h,65536) w:=by
  rcases hlo with⟨rfl,rfl⟩|rfl<;>rcases hhi with⟨rfl,rfl⟩|rfl <;>
   simp[Instr.sliceBounds,b1 _ _ hah,b2 _ _ hh]
 simp only[Instr.sliceAt,run_underlying Tryz.underlying77,Sem.run_bind,Result.andThen_ok,Instr.sureAddr,Sem.run_pure,hb,hs,Nat.mul_one,hadd,if_neg e3,e1,e2]
theorem alM:(Tryz.prog.info? 5).map (·.size)=some 1:=by kernel_rfl
theorem akb (b n:Nat)(S:Nat→Bool)(D:Nat→UInt8)(x:Int)(a:Nat)(w:World)(hx:x=(a:Int))(ha:(a:Int) < 65536)(hn:(n:Int)≤65536)(hI:oD w b S n D):
 Calls Tryz.prog 23 #[.pointer (some ⟨b,0,none⟩),.int .i64 x] w fun e w'=>e= .returned (.tuple #[])∧oD w' b (ins S a) (n+1) D∧w.grownBy w' (some b):=by
 subst hx;exact afw b n S D a w ha hn hI
theorem Yl (g a k:Nat)(S:Nat→Bool)(D:Nat→UInt8)(A:Option Addr)(l:List UInt8)(c:Nat)(w:World)(p:Nat→Prop)(ha:(a:Int) < 65536)(hn:(a:Int)+l.length≤65536)(hk:(k:Int)+l.length≤65536)
 (hI:oD w g S k D) (hT:TabAt 1 Lib.deBruijn64tab w) (ho:a+l.length≤JG S a) (hR:Rd w p A (bs l)):
 Calls Tryz.prog 10 #[.pointer (some ⟨g,0,none⟩),.int .i64 a,.slice A l.length c] w fun e w'=>e= .returned (.int .i64 0)∧oD w' g (BX S a l.length) (k+l.length) (wr D a l)∧w.grownBy w' (some g):=by
 have HI:=zo hI;have HT:=zo hT;have HR:=zo hR;clear hI hT hR;obtain⟨q,hq⟩:∃q,a+q=65536:=⟨65536 - a,zy⟩;have hsl:=fun w=>Gz g 1025 a 65536 q q w (some (.int .i64 (a:Int))) none (.inr rfl) (.inl ⟨rfl,rfl⟩) zy zy zy hq.symm hq
 have HQ:=zo hq;clear hq;have h1:decide (((JG S a:Nat):Int) < (a:Int)+l.length)=false:=by rw[decide_eq_false_iff_not];omega
 have d1:decide ((a:Int) < 0)=false:=zw;have d2:decide ((65536:Int)≤(a:Int))=false:=by simp;omega
 have d3:decide ((65536:Int) - (a:Int) < (l.length:Int))=false:=by rw[decide_eq_false_iff_not];omega
 go_enter Tryz.func10,Tryz.ntmps10
 go_wp2_with (first|(go_at_call 22;refine (o8 g S a _ zy HI.out.word HT.out).mono ?_;rintro e w' ⟨rfl,rfl⟩)|(with_reducible refine BR rfl (.tmp 39) (.tmp 40) 22 22 5 rfl Tryz.underlying22 alM g k a q q c S D A l p rfl rfl HI.out HR.out (by have:=HQ.out;omega) zy ?_;intro w1 hI1 hg1;have HI1:=zo hI1;have HG1:=zo hg1;clear hI1 hg1))
 obtain⟨D',hD'⟩:∃D',wr D a l=D':=⟨_,rfl⟩;rw[hD'] at HI1;have HD:=zo hD';clear hD' hsl d1 d2 d3 h1 HQ
 go_loopw [44] (fun v wr=>∃i:Nat,i≤l.length∧v= .int .i64 i∧Hid (oD wr g (BX S a i) (k+i) D')∧Hid (w.grownBy wr (some g))) (fun v _=>l.length - (intOf v).toNat)
 case atStart=>exact⟨0,zF _,rfl,by rw[VD];exact HI1,HG1⟩
 case round=>
  obtain⟨i,hi,rfl,hI2,hg2⟩:=hrel;by_cases hlt:i < l.length
  ·go_wp2_with (go_at_call 23;refine (akb g (k+i) (BX S a i) D' _ (a+i) _ zy zy zy hI2.out).mono ?_;rintro e w3 ⟨rfl,hI3,hg3⟩;have HI3:=zo hI3;have ru:=zo (grownBy_trans hg2.out hg3);clear hI3 hg3)
   go_roundw
   case rel=>exact⟨i+1,zy,by go_num,by rw[← VE];exact HI3,ru⟩
   case measure=>simp[intOf];omega
  ·go_wp2;go_ret;have e:i=l.length:=zy;subst e;exact⟨rfl,by rw[HD.out];exact hI2.out,hg2.out⟩
theorem agK:El Tryz.prog 22 5 (.int .u8 0) 1 1:=⟨Tryz.underlying22,zz,rfl,zx⟩
theorem Ip (A:Option Addr)(l:List UInt8)(n c:Nat)(w:World)(p:Nat→Prop)(hn:n=l.length)(hm:l.length≤140737488355328)(h:Rd w p A (bs l)):
 Calls Tryz.prog 120 #[.slice A n c] w fun e w'=>∃v,e= .returned v∧w'.ownsRow w.heap.size 5 1 v l.length (bs l)∧Below w.heap.size w w':=by
 subst hn;rcases A with _|ad
 ·have hl:l=[]:=by
   apply xy;intro hx;obtain⟨_,e,_⟩:=h (by simpa [bs] using hx)
   cases e
  subst hl;have hnil:=fun w=>Lib.run_eql_slice_nil (P:=Tryz.prog) w 22 5 none 0 c 0 0 Tryz.underlying22
  go_enter Tryz.func120,Tryz.ntmps120;go_wp2;go_ret;exact⟨_,rfl,yx _ _ _ _,zh _ _⟩
 ·have hnil:=fun w n=>Lib.run_eql_slice_nil (P:=Tryz.prog) w 22 5 (some ad) n c 0 0 Tryz.underlying22
  go_enter Tryz.func120,Tryz.ntmps120;have hown:(w.alloc (.cells #[] 5)).ownsRow w.heap.size 5 1 (.slice (some ⟨w.heap.size,0,none⟩) 0 0) 0 []:=World.ownsRow_lit w #[] 0 (zn _) zx rfl;have hb:Below w.heap.size w (w.alloc (.cells #[] 5)):=(zh _ _).alloc (zn _) _
  go_wp2_with (at_builtin;refine bu agK rfl (.tmp 5) (.tmp 6) rfl w.heap.size _ 0 [] p (some ad) l.length c (bs l) rfl rfl hown (by rw[aQ];omega) (h.after hb) (Fa l) (by simp only[maxLen];omega) zy hb.size ?_;intro v' w1 hown1 hg1 QB hz1)
  go_ret;refine⟨v',rfl,by simpa using hown1,hb.grown hg1 hb.size fun k hk=>?_⟩
  have e:w.heap.size=k:=zq hk;omega
end
namespace Ex
open Go.RowKit Go.Shelf
theorem Cv {ρ:Env}{w:World}{b:Nat}{l:List (Nat×Nat)}:(aF.img 79 l).rep ρ w b↔oD w (ρ.blk b) (Lm l) l.length (imD l):=Iff.rfl
def aip:aj:=fun g args W=>cond (Nat.beq g 9) (match args with
 |[]=>some (.ptr W.nx 0,W.push (.img 79 []))
 |_=>none) none
theorem adZ:ai Tryz.prog aip:=fun g args W v W' h=>by
 unfold aip at h
 cases hg:Nat.beq g 9 with
 |false=>rw[hg] at h;cases h
 |true=>
 rw[hg] at h;obtain rfl:=(beq_iff _ _).1 hg;simp only[cond_true] at h;split at h
 case h_2=>cases h
 case h_1=>
 obtain⟨rfl,rfl⟩:=zm (zq h);refine⟨⟨_,Tryz.func9,zx,zz⟩,fun _ hb=>hb,fun w0 ρ w _ hW=>(Sk w).mono ?_⟩
 rintro e w' ⟨rfl,hI,hb⟩;refine⟨ρ.up W.nx w.heap.size 0,by simp only[cv,Env.aM],hW.new (k:=.img 79 []) ⟨hb.os,hb.tape,hb.output,hb.size,fun i hi _=>hb.block i hi⟩ (zn _) hI.lt trivial ?_,zS _⟩
 rw[Cv,Env.aM];exact hI
def ll (a:Nat):List (Nat×Nat)→Nat→Nat
 |[],m=>m
 |x::l,m=>cond (Nat.ble a x.1) (cond (Nat.blt x.1 m) (ll a l x.1) (ll a l m)) (ll a l m)
def DT (l:List (Nat×Nat)):Nat→Nat→Nat
 |0,a=>a
 |f+1,a=>cond (Nat.blt a 65536) (match au a l with|some _=>DT l f (a+1)|none=>a) 65536
theorem kz (a:Nat):∀(l:List (Nat×Nat)) (m:Nat),a≤m→a≤ll a l m∧ll a l m≤m∧(∀x,a≤x→x < ll a l m→au x l=none)∧(ll a l m=m∨(au (ll a l m) l).isSome=true)
 |[],m,h=>⟨h,zn _,fun _ _ _=>rfl,.inl rfl⟩
 |y::l,m,h=>by
  have keep:∀{r:Nat},(∀x,a≤x→x < r→au x l=none)→(∀x,a≤x→x < r→y.1≠x)→∀x,a≤x→x < r→au x (y::l)=none:=fun h1 h2 x h3 h4=>by
   simp only[au,eQ (h2 x h3 h4),cond_false];exact h1 x h3 h4
  have up:∀{r:Nat},(au r l).isSome=true→(au r (y::l)).isSome=true:=fun {r} h=>by
   simp only[au]
   cases Nat.beq y.1 r
   ·exact h
   ·rfl
  unfold ll
  cases h1:Nat.ble a y.1 with
  |false=>
   have hlt:¬a≤y.1:=fun e=>by rw[yF e] at h1;cases h1
   simp only[cond_false];obtain⟨q1,q2,q3,q4⟩:=kz a l m h;exact⟨q1,q2,keep q3 fun x h3 _ e=>zy,q4.imp_right up⟩
  |true=>
   have hle:=zk h1;simp only[cond_true]
   cases h2:Nat.blt y.1 m with
   |false=>
    have hge:¬y.1 < m:=fun e=>by
     have:Nat.blt y.1 m=true:=by simpa [Nat.blt_eq] using e
     rw[this] at h2;cases h2
    simp only[cond_false];obtain⟨q1,q2,q3,q4⟩:=kz a l m h;exact⟨q1,q2,keep q3 fun x _ h4 e=>zy,q4.imp_right up⟩
   |true=>
    have hlt:=aK h2;simp only[cond_true];obtain⟨q1,q2,q3,q4⟩:=kz a l y.1 hle;refine⟨q1,zy,keep q3 fun x _ h4 e=>zy,.inr ?_⟩
    rcases q4 with q4|q4
    ·rw[q4];simp[au]
    ·exact up q4
theorem rM (l:List (Nat×Nat)):∀(f a r:Nat),a≤65536→DT l f a=r→(r < a+f∨r=65536)→sw (fun x=>!(Lm l x)) a r
 |0,a,r,ha,h,hr=>by
  simp only[DT] at h;subst h;have:a=65536:=zy;subst this;exact⟨zn _,zn _,fun x h1 h2=>zy,fun h=>zy⟩
 |f+1,a,r,ha,h,hr=>by
  unfold DT at h
  cases h1:Nat.blt a 65536 with
  |false=>
   rw[h1] at h;simp only[cond_false] at h;subst h
   have:¬a < 65536:=fun e=>by
    have:Nat.blt a 65536=true:=by simpa [Nat.blt_eq] using e
    rw[this] at h1;cases h1
   exact⟨ha,zn _,fun x h1 h2=>zy,fun h=>zy⟩
  |true=>
   rw[h1] at h;simp only[cond_true] at h;have hlt:=aK h1;split at h
   ·rename_i u hu;obtain⟨q1,q2,q3,q4⟩:=rM l f (a+1) r zy h zy;refine⟨zy,q2,fun x h1 h2=>?_,q4⟩
    by_cases hx:x=a
    ·subst hx;simp[Lm,hu]
    ·exact q3 x zy h2
   ·rename_i hu;subst h;exact⟨zn _,zy,fun x h1 h2=>zy,fun _=>by simp[Lm,hu]⟩
def agc (l:List (Nat×Nat))(a:Nat):Bool→Option Nat
 |true=>some (ll a l 65536)
 |false=>let r:=DT l (l.length+1) a;cond (Nat.blt r (a+(l.length+1))) (some r) (cond (Nat.beq r 65536) (some r) none)
def Pn:List Value→List Nat→Bool
 |_,[]=>true
 | .int .u8 (.ofNat a)::l,b::m=>cond (Nat.beq a b) (Pn l m) false
 |_,_=>false
theorem sI:∀{l:List Value} {m:List Nat},Pn l m=true→∀j,j < m.length→l[j]? =some (.int .u8 ((m.getD j 0:Nat):Int))
 |_,[],_,j,hj=>absurd hj (yf _)
 | .int .u8 (.ofNat a)::l,b::m,h,j,hj=>by
   unfold Pn at h
   cases hab:Nat.beq a b with
   |false=>rw[hab] at h;cases h
   |true=>
    rw[hab] at h;obtain rfl:=(beq_iff _ _).1 hab
    cases j with
    |zero=>rfl
    |succ j=>simpa using sI h j (by simpa using hj)
def YU:aj:=fun g args W=>cond (Nat.beq g 22) (match args with
 |[.ptr b 0,.int .i64 (.ofNat a),.bool c]=>match au b W.bl,au 1 W.gl with
  |some (.img e l),some tb=>cond (Nat.beq e 79) (cond (Nat.ble a 65536) (cond (Pn tb Lib.deBruijn64tab) ((agc l a c).map fun r=>(.int .i64 (.ofNat r),W)) none) none) none
  |_,_=>none
 |_=>none) none
theorem YT:ai Tryz.prog YU:=fun g args W v W' h=>by
 unfold YU at h
 cases hg:Nat.beq g 22 with
 |false=>rw[hg] at h;cases h
 |true=>
 rw[hg] at h;obtain rfl:=(beq_iff _ _).1 hg;simp only[cond_true] at h;split at h
 case h_2=>cases h
 case h_1 b a c=>
 split at h
 case h_2=>cases h
 case h_1 e l tb hb ht=>
 cases he:Nat.beq e 79 with
 |false=>rw[he] at h;cases h
 |true=>
 obtain rfl:=(beq_iff _ _).1 he
 cases ha:Nat.ble a 65536 with
 |false=>rw[he,ha] at h;cases h
 |true=>
 cases htb:Pn tb Lib.deBruijn64tab with
 |false=>rw[he,ha,htb] at h;cases h
 |true=>
 rw[he,ha,htb] at h;simp only[cond_true] at h;have ha:=zk ha;obtain⟨r,hr,h2⟩:=zi.1 h;obtain⟨rfl,rfl⟩:=zm h2;refine⟨⟨_,Tryz.func22,zx,zz⟩,fun _ hb=>hb,fun w0 ρ w _ hW=>?_⟩
 have hI:oD w (ρ.blk b) (Lm l) l.length (imD l):=Cv.1 (hW.rep b _ hb);have hT:TabAt 1 Lib.deBruijn64tab w:=fun j hj=>hW.QC _ _ ht j _ (sI htb j hj)
 have fin:∀x:Nat,x=r→∀e w',e=Ending.returned (.int .i64 (x:Int))∧w=w'→∃ρ',e= .returned (cv ρ' (.int .i64 (.ofNat r)))∧Post w0 ρ W w ρ' W w'∧(AV.int .i64 (.ofNat r)).ok W.nx:=fun x hx e w' ⟨h5,h6⟩=>by
  subst hx;subst h6;exact⟨ρ,h5,Post.refl hW,trivial⟩
 cases c with
 |true=>
  obtain rfl:=zq hr;obtain⟨q1,q2,q3,q4⟩:=kz a l 65536 ha;have e1:JG (Lm l) a=ll a l 65536:=Ak ⟨q1,q2,fun x h1 h2=>by simp[Lm,q3 x h1 h2],fun hlt=>q4.elim (fun e=>zy) id⟩
  exact (o8 (ρ.blk b) (Lm l) a w ha hI.word hT).mono fun e w' h=>fin _ e1 e w' h
 |false=>
  have e1:JG (fun x=>!(Lm l x)) a=r:=by
   unfold agc at hr;dsimp only at hr
   cases h1:Nat.blt (DT l (l.length+1) a) (a+(l.length+1)) with
   |true=>
    rw[h1] at hr;obtain rfl:=zq hr;exact Ak (rM l _ a _ ha rfl (.inl (aK h1)))
   |false=>
    rw[h1] at hr
    cases h7:Nat.beq (DT l (l.length+1) a) 65536 with
    |false=>rw[h7] at hr;cases hr
    |true=>
     rw[h7] at hr;obtain rfl:=zq hr;exact Ak (rM l _ a _ ha rfl (.inr ((beq_iff _ _).1 h7)))
  exact (Sj (ρ.blk b) (Lm l) a w ha hI.word hT).mono fun e w' h=>fin _ e1 e w' h
def byL:List AV→Option (List Nat)
 |[]=>some []
 | .int .u8 (.ofNat c)::l=>cond (Nat.blt c 256) ((byL l).map (c:: ·)) none
 |_::_=>none
theorem QX {ρ:Env}:∀{l:List AV} {cs:List Nat},byL l=some cs→aH ρ l=bs (cs.map UInt8.ofNat)∧cs.length=l.length
 |[],cs,h=>by
  obtain rfl:=zq h;exact⟨rfl,rfl⟩
 |x::l,cs,h=>by
  unfold byL at h;split at h
  ·rename_i e;cases e
  ·rename_i c l' e;obtain⟨rfl,rfl⟩:=yP e
   cases hc:Nat.blt c 256 with
   |false=>rw[hc] at h;cases h
   |true=>
    rw[hc] at h;have hc:=aK hc;obtain⟨ds,hd,rfl⟩:=zi.1 h;obtain⟨h1,h2⟩:=QX (ρ:=ρ) hd;refine⟨?_,by simp[h2]⟩
    simp only[aH,cv,List.map_cons,bs];rw[h1];simp only[bs]
    congr 2
    have:(UInt8.ofNat c).toNat=c:=by
     simp;omega
    rw[this];rfl
  ·cases h
def Ju (l:List (Nat×Nat)):Nat→List Nat→List (Nat×Nat)
 |_,[]=>l
 |a,c::cs=>(a,c)::Ju l (a+1) cs
theorem Mw (l:List (Nat×Nat)):∀(a:Nat) (cs:List Nat),(Ju l a cs).length=l.length+cs.length
 |_,[]=>rfl
 |a,c::cs=>by rw[Ju,yw,Mw l (a+1) cs,yw];omega
theorem Dx (l:List (Nat×Nat)):∀(a:Nat) (cs:List Nat) (x:Nat),au x (Ju l a cs)=if a≤x∧x < a+cs.length then cs[x - a]? else au x l
 |a,[],x=>by
  rw[za (fun h=>by have:=h.2;simp at this;omega)];rfl
 |a,c::cs,x=>by
  rw[Ju];by_cases hx:a=x
  ·subst hx;rw[aA,zW zw];simp
  ·rw[aD _ _ hx,Dx l (a+1) cs x];by_cases h1:a+1≤x∧x < a+1+cs.length
   ·rw[zW h1,zW zu,show x - a=(x - (a+1))+1 by omega,vk]
   ·rw[za h1,za zu]
theorem ahM (l:List (Nat×Nat))(a:Nat)(cs:List Nat):Lm (Ju l a cs)=BX (Lm l) a cs.length:=by
 funext x
 simp only[Lm,BX,Dx];by_cases h:a≤x∧x < a+cs.length
 ·rw[zW h,zg zy];simp[h.1,h.2]
 ·rw[za h]
  have:(decide (a≤x) && decide (x < a+cs.length))=false:=by
   rw[wU];simp only[ne_eq,Bool.and_eq_true,decide_eq_true_eq];exact h
  rw[this,Bool.or_false]
theorem ahN (l:List (Nat×Nat))(a:Nat)(cs:List Nat):imD (Ju l a cs)=wr (imD l) a (cs.map UInt8.ofNat):=by
 funext x
 simp only[imD,wr,Dx];by_cases h:a≤x∧x < a+cs.length
 ·rw[zW h,zW h.1,zg zy];simp[List.getElem?_eq_getElem (show x - a < cs.length by omega)]
 ·rw[za h];by_cases h1:a≤x
  ·rw[zW h1,yo zu];rfl
  ·rw[za h1]
def ahL:aj:=fun g args W=>cond (Nat.beq g 10) (match args with
 |[.ptr b 0,.int .i64 (.ofNat a),x]=>match au b W.bl,au 1 W.gl with
  |some (.img e l),some tb=>match lg W.bl 1 x with
   |some (m,news)=>match byL news with
    |some cs=>cond (Nat.beq e 79) (cond (Nat.blt a 65536) (cond (Nat.ble (a+m) 65536) (cond (Nat.ble (l.length+m) 65536) (cond (Nat.ble (a+m) (ll a l 65536)) (cond (Pn tb Lib.deBruijn64tab)
      (some (.int .i64 (.ofNat 0),⟨W.nx,ib b (.img e (Ju l a cs)) W.bl,addN b W.az,W.gl⟩)) none) none) none) none) none) none
    |none=>none
   |none=>none
  |_,_=>none
 |_=>none) none
theorem adu:ai Tryz.prog ahL:=fun g args W v W' h=>by
 unfold ahL at h
 cases hg:Nat.beq g 10 with
 |false=>rw[hg] at h;cases h
 |true=>
 rw[hg] at h;obtain rfl:=(beq_iff _ _).1 hg;simp only[cond_true] at h;split at h
 case h_2=>cases h
 case h_1 b a x=>
 split at h
 case h_2=>cases h
 case h_1 e l tb hb ht=>
 split at h
 case h_2=>cases h
 case h_1 m news hx=>
 split at h
 case h_2=>cases h
 case h_1 cs hcs=>
 cases he:Nat.beq e 79 with
 |false=>rw[he] at h;cases h
 |true=>
 obtain rfl:=(beq_iff _ _).1 he
 cases h1:Nat.blt a 65536 with
 |false=>rw[he,h1] at h;cases h
 |true=>
 cases h2:Nat.ble (a+m) 65536 with
 |false=>rw[he,h1,h2] at h;cases h
 |true=>
 cases h3:Nat.ble (l.length+m) 65536 with
 |false=>rw[he,h1,h2,h3] at h;cases h
 |true=>
 cases h4:Nat.ble (a+m) (ll a l 65536) with
 |false=>rw[he,h1,h2,h3,h4] at h;cases h
 |true=>
 cases h5:Pn tb Lib.deBruijn64tab with
 |false=>rw[he,h1,h2,h3,h4,h5] at h;cases h
 |true=>
 rw[he,h1,h2,h3,h4,h5] at h;simp only[cond_true] at h;have h1:=aK h1;have h2:=zk h2;have h3:=zk h3;have h4:=zk h4;obtain⟨rfl,rfl⟩:=zm (zq h);refine⟨⟨_,Tryz.func10,zx,zz⟩,fun _ hb=>(dJ _ _ _).2 (.inr hb),fun w0 ρ w _ hW=>?_⟩
 have hI:oD w (ρ.blk b) (Lm l) l.length (imD l):=Cv.1 (hW.rep b _ hb);have hT:TabAt 1 Lib.deBruijn64tab w:=fun j hj=>hW.QC _ _ ht j _ (sI h5 j hj)
 obtain⟨A,c,hxv,hlen,hrd,_⟩:=jr (fun b k hb=>⟨(hW.ok b k hb).2.1,hW.rep b k hb⟩) hx
 obtain⟨hbs,hcl⟩:=QX (ρ:=ρ) hcs;have hm:(cs.map UInt8.ofNat).length=m:=by rw[zI,hcl,hlen];omega
 have hm2:cs.length=m:=by rw[← hm,zI]
 rw[hbs] at hrd;obtain⟨q1,q2,q3,q4⟩:=kz a l 65536 zy;have e1:JG (Lm l) a=ll a l 65536:=Ak ⟨q1,q2,fun x h1 h2=>by simp[Lm,q3 x h1 h2],fun hlt=>q4.elim (fun e=>zy) id⟩
 have hc:=Yl (ρ.blk b) a l.length (Lm l) (imD l) A (cs.map UInt8.ofNat) c w (fun _=>True) zy (by rw[hm];omega) (by rw[hm];omega) hI hT (by rw[hm,e1];exact h4) hrd
 have ea:(aH ρ [.ptr b 0,.int .i64 (.ofNat a),x]).toArray=#[.pointer (some ⟨ρ.blk b,0,none⟩),.int .i64 a,.slice A (cs.map UInt8.ofNat).length c]:=by
  rw[hm];simp only[aH,cv,hxv];rfl
 rw[ea];refine hc.mono ?_;rintro e' w' ⟨rfl,hI',hg⟩;refine⟨ρ,rfl,hW.write hb ((Gr.mF hg).mono fun i _ e=>zq e) (k:=.img 79 (Ju l a cs)) trivial ?_,trivial⟩
 rw[Cv,ahM,ahN,Mw];rw[zI] at hI';exact hI'
def QR:aj:=fun g args W=>cond (Nat.beq g 120) (match args with
 |[x]=>match lg W.bl 1 x with
  |some (m,news)=>match byL news with
   |some _=>cond (Nat.blt 0 m) (cond (Nat.ble m 140737488355328) (some (.slice W.nx 0 0 m none,W.push (.cells news 5 (some 1)))) none) none
   |none=>none
  |none=>none
 |_=>none) none
theorem Wo:ai Tryz.prog QR:=fun g args W v W' h=>by
 unfold QR at h
 cases hg:Nat.beq g 120 with
 |false=>rw[hg] at h;cases h
 |true=>
 rw[hg] at h;obtain rfl:=(beq_iff _ _).1 hg;simp only[cond_true] at h;split at h
 case h_2=>cases h
 case h_1 x=>
 split at h
 case h_2=>cases h
 case h_1 m news hx=>
 split at h
 case h_2=>cases h
 case h_1 cs hcs=>
 cases h1:Nat.blt 0 m with
 |false=>rw[h1] at h;cases h
 |true=>
 cases h2:Nat.ble m 140737488355328 with
 |false=>rw[h1,h2] at h;cases h
 |true=>
 rw[h1,h2] at h;simp only[cond_true] at h;have h1:=aK h1;have h2:=zk h2;obtain⟨rfl,rfl⟩:=zm (zq h);refine⟨⟨_,Tryz.func120,zx,zz⟩,fun _ hb=>hb,fun w0 ρ w _ hW=>?_⟩
 obtain⟨A,c,hxv,hlen,hrd,hno⟩:=jr (fun b k hb=>⟨(hW.ok b k hb).2.1,hW.rep b k hb⟩) hx
 obtain⟨hbs,hcl⟩:=QX (ρ:=ρ) hcs;have hm:(cs.map UInt8.ofNat).length=m:=by rw[zI,hcl,hlen];omega
 rw[hbs] at hrd;have hc:=Ip A (cs.map UInt8.ofNat) m c w (fun _=>True) hm.symm zy hrd
 have ea:(aH ρ [x]).toArray=#[.slice A m c]:=by simp only[aH,hxv]
 rw[ea];refine hc.mono ?_;rintro e' w' ⟨v,rfl,hown,hb⟩;rw[hm] at hown;obtain⟨g,cap,cur,rfl,r1,r2,r3,r4,r5,r6⟩:=tK hown h1
 have hgw:w.heap.size≤g:=by
  rcases hown.2 with⟨_,h0⟩|⟨g',cap',cur',e1,e2,_⟩
  ·omega
  ·injection e1 with e1 _ _
   injection e1 with e1
   injection e1 with e1 _ _
   rw[e1];exact e2
 refine⟨ρ.up W.nx g cap,?_,hW.new (g:=g) (c:=cap) (k:=.cells news 5 (some 1)) ⟨hb.os,hb.tape,hb.output,hb.size,fun i hi _=>hb.block i hi⟩ hgw r1 hno ?_,zS _⟩
 ·simp only[cv,Env.aM,Env.bX,Nat.sub_zero]
 ·refine⟨m,cur,?_,?_,?_,?_,by rw[hlen],?_⟩
  ·rw[Env.aM];exact r2
  ·rw[Env.bX];exact r3
  ·rw[Env.bX];exact r4
  ·rw[Env.bX];exact r5
  ·rw[cz (Env.gu ρ W.nx g cap) _ hno,hbs];exact r6
end Ex
section
open Go.RowKit
def pG (c op i:Nat):Bool:=cond (Nat.beq c 48) (Nat.beq (Nat.mod (Nat.div op (2 ^ (7 - i))) 2) 0) (cond (Nat.beq c 49) (Nat.beq (Nat.mod (Nat.div op (2 ^ (7 - i))) 2) 1) true)
theorem aeQ (op m:Nat)(h:op < 256):bits BinOp.and IntKind.u8 ((op:Int) / 2 ^ m) 1=(((op / 2 ^ m) % 2:Nat):Int):=by
 have e1:((op:Int) / 2 ^ m)=((op / 2 ^ m:Nat):Int):=zw;have h2:op / 2 ^ m < 256:=Nat.lt_of_le_of_lt (Nat.div_le_self _ _) h;rw[e1];have:=u8_and_nat (op / 2 ^ m) 1 h2 zx;rw[Nat.and_one_is_mod] at this;exact this
def EE (l:List UInt8)(op:Nat):Bool:=(List.range (min l.length 8)).all (fun i=>pG ((l.getD i 0).toNat) op i)
theorem aeT {l:List UInt8}{op k:Nat}(h1:k < l.length)(h2:k < 8)(h:pG (l[k].toNat) op k=false):EE l op=false:=by
 unfold EE;rw[wU];intro hall;have:=zY.1 hall k (yS.2 zy);simp[List.getD_eq_getElem?_getD,h1,h] at this
theorem aal {l:List UInt8}{op k:Nat}(hk:¬k < min l.length 8)(h:∀j (hj:j < l.length),j < k→pG (l[j].toNat) op j=true):EE l op=true:=by
 unfold EE;refine zY.2 fun i hi=>?_
 have hi:=yS.1 hi;have hil:i < l.length:=zy;simp[List.getD_eq_getElem?_getD,hil,h i hil zy]
theorem NK (s:ByteArray)(op:Nat)(w:World)(hop:op < 256)(hs:s.size≤maxLen):
 Calls Tryz.prog 246 #[.string s,.int .u8 op] w fun e w'=>e= .returned (.bool (EE s.data.toList op && !(s.size == 0)))∧w=w':=by
 unfold maxLen at hs;have hsn:(s.size:Int)≤9223372036854775807:=zy;obtain⟨l,hl⟩:∃l,s.data.toList=l:=⟨_,rfl⟩;have HL:Hid (l.length=s.size):=by rw[Hid,← hl];exact bF s
 have HT:Hid (s.data.toList=l):=hl;rw[hl];clear hl;go_enter Tryz.func246,Tryz.ntmps246;go_wp2
 go_loop [10] (fun v=>∃k:Nat,v= .int .i64 k∧k≤8∧Hid (∀j (hj:j < l.length),j < k→pG (l[j].toNat) op j=true)) (fun v=>8 - (intOf v).toNat)
 case atStart=>exact⟨0,rfl,zy,fun j _ hj=>absurd hj (yf _)⟩
 case round=>
  obtain⟨k,rfl,hk,hr⟩:=hrel;by_cases hlt:k < min s.size 8
  ·have h1:k < s.size:=zy;have h8:k < 8:=zy;have hkl:k < l.length:=by have:=HL.out;omega
   obtain⟨c,hc,hcl⟩:=rE s h1;rw[HT.out] at hcl
   have ai1:l[k]=c:=by
    have:=zg hkl;rw[hcl] at this;exact (zq this).symm
   have hnext:pG c.toNat op k=true→Hid (∀j (hj:j < l.length),j < k+1→pG (l[j].toNat) op j=true):=fun h j hj hjk=>by
    by_cases e:j=k
    ·subst e;rw[ai1];exact h
    ·exact hr.out j hj zy
   have hstop:pG c.toNat op k=false→Hid (EE l op=false):=fun h=>aeT hkl h8 (by rw[ai1];exact h)
   have hk2:=aeQ op (7 - k) hop;have hlo:(k:Int) < min (s.size:Int) 8:=zy;obtain⟨y,hy⟩:∃y:Int,(c.toNat:Int)=y:=⟨_,rfl⟩;clear hcl ai1 hr;by_cases c8:c.toNat=48
   ·obtain rfl:y=48:=zy;rcases wE (op / 2 ^ (7 - k)) with hb|hb
    ·have HN:=hnext (by unfold pG;rw[c8];show Nat.beq ((op / 2 ^ (7 - k)) % 2) 0=true;rw[hb];rfl)
     rw[hb] at hk2;clear hnext hstop hb
     go_wp2_with (simp only[hk2])
     exact⟨⟨k+1,by go_num,zy,HN⟩,by simp[intOf];omega⟩
    ·have HN:=hstop (by unfold pG;rw[c8];show Nat.beq ((op / 2 ^ (7 - k)) % 2) 0=false;rw[hb];rfl)
     rw[hb] at hk2;clear hnext hstop hb
     go_wp2_with (simp only[hk2])
     go_ret;exact⟨dz (by rw[HN.out];rfl),rfl⟩
   ·by_cases c9:c.toNat=49
    ·obtain rfl:y=49:=zy;have c8:=c9;rcases wE (op / 2 ^ (7 - k)) with hb|hb
     ·have HN:=hstop (by unfold pG;rw[c8];show Nat.beq ((op / 2 ^ (7 - k)) % 2) 1=false;rw[hb];rfl)
      rw[hb] at hk2;clear hnext hstop hb
      go_wp2_with (simp only[hk2])
      go_ret;exact⟨dz (by rw[HN.out];rfl),rfl⟩
     ·have HN:=hnext (by unfold pG;rw[c8];show Nat.beq ((op / 2 ^ (7 - k)) % 2) 1=true;rw[hb];rfl)
      rw[hb] at hk2;clear hnext hstop hb
      go_wp2_with (simp only[hk2])
      exact⟨⟨k+1,by go_num,zy,HN⟩,by simp[intOf];omega⟩
    ·have HN:=hnext (by
      unfold pG;have e1:Nat.beq c.toNat 48=false:=by cases h:Nat.beq c.toNat 48 with|false=>rfl|true=>exact absurd (vX h) c8
      have e2:Nat.beq c.toNat 49=false:=by cases h:Nat.beq c.toNat 49 with|false=>rfl|true=>exact absurd (vX h) c9
      rw[e1,e2];rfl)
     have y8:(y == 48)=false:=by simp;omega
     have y9:(y == 49)=false:=by simp;omega
     clear hnext hstop hk2 c8 c9;go_wp2;exact⟨⟨k+1,by go_num,zy,HN⟩,by simp[intOf];omega⟩
  ·have HE:=zo (aal (l:=l) (op:=op) (k:=k) (by have:=HL.out;omega) hr.out)
   have hlo:¬(k:Int) < min (s.size:Int) 8:=zy;clear hlt hr;go_wp2;go_ret;refine⟨dz ?_,rfl⟩;rw[HE.out,ql,HT.out];have h2:l.length=s.size:=HL.out
   cases l with
   |nil=>simp at h2;simp[← h2]
   |cons x m=>simp at h2;simp[← h2]
end
namespace Ex
open Go.RowKit
def AB:List Nat→Nat→Nat→Nat→Bool
 |_,_,_,0=>true
 |[],_,_,_+1=>true
 |c::l,op,i,f+1=>cond (pG (bO c) op i) (AB l op (i+1) f) false
theorem Kb (op:Nat):∀(f i:Nat) (l:List Nat),AB l op i f=(List.range (min l.length f)).all (fun j=>pG (((l.map UInt8.ofNat).getD j 0).toNat) op (i+j))
 |0,i,l=>by
  rw[Nat.min_zero]
  cases l<;>rfl
 |f+1,i,[]=>by simp[AB]
 |f+1,i,c::l=>by
  unfold AB;rw[Kb op f (i+1) l];have e:min (c::l).length (f+1)=min l.length f+1:=by rw[yw];omega
  rw[e,List.range_succ_eq_map,vw,List.all_map];have e0:(((c::l).map UInt8.ofNat).getD 0 0).toNat=bO c:=by simp[bO]
  rw[e0,Nat.add_zero]
  have e1:((fun j=>pG ((((c::l).map UInt8.ofNat).getD j 0).toNat) op (i+j)) ∘ Nat.succ)=fun j=>pG (((l.map UInt8.ofNat).getD j 0).toNat) op (i+1+j):=by
   funext j
   simp only[Function.comp_apply,List.map_cons,Nat.succ_eq_add_one,List.getD_cons_succ];rw[show i+(j+1)=i+1+j by omega]
  rw[e1]
  cases pG (bO c) op i<;>rfl
def aak:List AV→Option AV
 |[.str l,.int .u8 (.ofNat op)]=>cond (Nat.blt op 256) (cond (Nat.ble l.length 1099511627776) (some (.bool (match l with|[]=>false|_=>AB l op 0 8))) none) none
 |_=>none
theorem aeO:ai Tryz.prog (MS 246 aak):=JF Tryz.func246 zx zz fun args v h=>by
 unfold aak at h;split at h
 case h_2=>cases h
 case h_1 l op=>
 cases h1:Nat.blt op 256 with
 |false=>rw[h1] at h;cases h
 |true=>
 cases h2:Nat.ble l.length 1099511627776 with
 |false=>rw[h1,h2] at h;cases h
 |true=>
 rw[h1,h2] at h;obtain rfl:=zq h;have h1:=aK h1;have h2:=zk h2;refine⟨fun n=>trivial,fun ρ w=>(NK (ag l) op w h1 (by rw[aC];simp only[maxLen];omega)).mono ?_⟩
 rintro e w' ⟨rfl,rfl⟩;refine⟨?_,zh _ _⟩;have e1:(ag l).data.toList=l.map UInt8.ofNat:=by simp[ag]
 have e2:EE (l.map UInt8.ofNat) op=AB l op 0 8:=by
  rw[Kb];unfold EE;simp
 rw[e1,e2,aC]
 cases l with
 |nil=>rfl
 |cons c l=>simp[cv]
def S0:aj:=qX (MS 45 O9) (qX (MS 246 aak) (qX aip (qX YU (qX ahL QR))))
theorem an1:ai Tryz.prog S0:=bN Xj (bN aeO (bN adZ (bN YT (bN adu Wo))))
end Ex
namespace Ex
open Go.RowKit Go.Lib
def rT (c:Nat):List Nat→Nat→Option Nat
 |[],_=>none
 |x::l,k=>cond (Nat.beq (bO x) c) (some k) (rT c l (k+1))
def aa2 (c:Nat):List Nat→Nat→Nat
 |[],n=>n
 |x::l,n=>aa2 c l (cond (Nat.beq (bO x) c) (n+1) n)
theorem TB (x c:Nat):(UInt8.ofNat x == UInt8.ofNat c)=Nat.beq (bO x) (bO c):=by
 rw[yX,beq_iff,beq_iff_eq,ofNat_eq]
theorem Ef (c:Nat):∀(l:List Nat) (k:Nat),rT (bO c) l k=((List.range l.length).find? fun i=>(ag l)[i]! == UInt8.ofNat c).map (· +k)
 |[],k=>rfl
 |x::l,k=>by
  have e0:(ag (x::l))[0]! =UInt8.ofNat x:=by
   rw[getElem!_pos _ _ (by simp[aC])]
   simp[ag,ByteArray.getElem_eq_getElem_data]
  have e1:∀i,(ag (x::l))[i+1]! =(ag l)[i]!:=fun i=>by
   by_cases hi:i < l.length
   ·rw[getElem!_pos _ _ (by rw[aC];simp;omega),getElem!_pos _ _ (by rw[aC];exact hi)]
    simp[ag,ByteArray.getElem_eq_getElem_data]
   ·rw[getElem!_neg _ _ (by rw[aC];simp;omega),getElem!_neg _ _ (by rw[aC];exact hi)]
  rw[yw,List.range_succ_eq_map,List.find?_cons,e0,TB];unfold rT
  cases h:Nat.beq (bO x) (bO c)
  ·simp only[cond_false];rw[Ef c l (k+1),List.find?_map];simp only[Option.map_map]
   have hf:((fun i=>(ag (x::l))[i]! == UInt8.ofNat c) ∘ Nat.succ)=fun i=>(ag l)[i]! == UInt8.ofNat c:=by
    funext i
    show ((ag (x::l))[i+1]! == _)=_;rw[e1]
   rw[hf]
   congr 1
   funext i
   simp;omega
  ·simp
theorem Oe (c:Nat):∀(l:List Nat) (n:Nat),aa2 (bO c) l n=(l.map UInt8.ofNat).foldl (fun n x=>if x == UInt8.ofNat c then n+1 else n) n
 |[],n=>rfl
 |x::l,n=>by
  unfold aa2;rw[zO,wu,Oe c l,TB]
  cases Nat.beq (bO x) (bO c)<;>rfl
theorem Ky (c:Nat):∀(l:List UInt8) (n:Nat),l.foldl (fun (n:Int) x=>if x == UInt8.ofNat c then n+1 else n) (n:Int)=((l.foldl (fun n x=>if x == UInt8.ofNat c then n+1 else n) n:Nat):Int)
 |[],n=>rfl
 |x::l,n=>by
  rw[wu,wu]
  cases x == UInt8.ofNat c
  ·exact Ky c l n
  ·exact Ky c l (n+1)
theorem foldl_loop {β:Type}(f:β→UInt8→β)(A:ByteArray)(h:A.size≤A.size):∀(i j:Nat) (b:β),i+j=A.size→ByteArray.foldlM.loop (m:=_root_.Id) f A A.size h i j b=(A.data.toList.drop j).foldl f b
 |0,j,b,hij=>by
  unfold ByteArray.foldlM.loop
  have hd:A.data.toList.drop j=[]:=yL (by
   have:A.data.toList.length=A.size:=rfl;omega)
  rw[dif_neg zy,hd];rfl
 |i+1,j,b,hij=>by
  unfold ByteArray.foldlM.loop;have hj:j < A.size:=zy;have hj':j < A.data.toList.length:=hj;rw[dif_pos hj,zK hj',wu];exact foldl_loop f A h i (j+1) _ zy
theorem QY {β:Type}(f:β→UInt8→β)(b:β)(l:List Nat):(ag l).foldl f b=(l.map UInt8.ofNat).foldl f b:=by
 have h:=foldl_loop f (ag l) (zn _) (ag l).size 0 b zy
 have e:(ag l).foldl f b=ByteArray.foldlM.loop (m:=_root_.Id) f (ag l) (ag l).size (zn _) (ag l).size 0 b:=by
  unfold ByteArray.foldl ByteArray.foldlM;simp[_root_.Id.run];rfl
 rw[e,h];simp[ag]
def FU:aj:=fun g args W=>
 cond (Nat.beq g 189) (match args with
  |[.str l,.int .u8 (.ofNat c)]=>match rT (bO c) l 0 with
   |some i=>some (.int .i64 (.ofNat i),W)
   |none=>some (.int .i64 (.negSucc 0),W)
  |_=>none) <|
 cond (Nat.beq g 25) (match args with
  |[.str l,.int .u8 (.ofNat c)]=>some (.int .i64 (.ofNat (aa2 (bO c) l 0)),W)
  |_=>none) <|
 cond (Nat.beq g 191) (match args with
  |[x]=>some (x,W)
  |_=>none) <|
 cond (Nat.beq g 236) (match args with
  |[.int .i64 (.ofNat n)]=>cond (Nat.ble n 1099511627776) (some (.slice W.nx 0 0 n none,W.push (.cells [] 5 (some 1)))) none
  |_=>none) none
theorem uC {g:Nat}{fn:Func}{e:Array Value→Sem Value}(h1:Tryz.prog.funcs[g]? =some fn)(h2:(fn.name == "runtime.NumGoroutine")=false)(h3:fn.body.isNone=true)(h4:(Extern.findNext fn).isNone=true)(h5:Extern.find fn=some e)(args:Array Value){w w':World}{v:Value}(h:(e args).run Tryz.prog w= .ok v w'):
 (callFunc g args).run Tryz.prog w= .ok (.value v) w':=by
 have h4':Extern.findNext fn=none:=by cases hq:Extern.findNext fn<;>simp_all
 simp only[callFunc,Sem.run_bind,run_program,Result.andThen_ok,h1,h2,h3,Bool.false_eq_true,if_false,if_true,mark,Sem.run,h4',h5,h,Sem.run_pure]
theorem SH (l:List Nat)(c:Nat)(w:World):(callFunc 189 #[.string (ag l),.int .u8 (Int.ofNat c)]).run Tryz.prog w= .ok (.value (match rT (bO c) l 0 with|some i=>.int .i64 (Int.ofNat i)|none=>.int .i64 (Int.negSucc 0))) w:=by
 have key:((Extern.BytealgIndexByte.indexByte #[.string (ag l),.int .u8 (Int.ofNat c)]).run Tryz.prog w)= .ok (match rT (bO c) l 0 with|some i=>.int .i64 (Int.ofNat i)|none=>.int .i64 (Int.negSucc 0)) w:=by
  rw[Ef c l 0];have e1:(fun x=>x+0)=(id:Nat→Nat):=rfl
  have hdef:Extern.BytealgIndexByte.indexByte #[.string (ag l),.int .u8 (Int.ofNat c)]=(do
   let b ← Extern.Bytes.bytesOf (.string (ag l))
   let c ← Extern.Bytes.asByte (.int .u8 (Int.ofNat c))
   match (List.range b.size).find? fun i=>b[i]! == c with
   |some i=>pure (goInt i)
   |none=>pure (goInt (-1))):=rfl
  rw[hdef];simp only[Extern.Bytes.bytesOf,Extern.Bytes.asByte,Sem.run_bind,Sem.run_pure,Result.andThen_ok,aC];have e2:(Int.ofNat c).toNat.toUInt8=UInt8.ofNat c:=rfl;rw[e2,e1,Option.map_id];simp only[id]
  cases (List.range l.length).find? fun i=>(ag l)[i]! == UInt8.ofNat c<;>simp[goInt]
 exact uC Tryz.func189 zx zz zz (by kernel_rfl:Extern.find Tryz.f189=some Extern.BytealgIndexByte.indexByte) _ key
theorem Cw:dU Tryz.prog FU:=fun g args W v W' h=>by
 unfold FU at h
 cases hg:Nat.beq g 189 with
 |true=>
  obtain rfl:=(beq_iff _ _).1 hg;rw[hg] at h;simp only[cond_true] at h;split at h
  case h_2=>cases h
  case h_1 l c=>
  have key:∀w,((Extern.BytealgIndexByte.indexByte #[.string (ag l),.int .u8 (Int.ofNat c)]).run Tryz.prog w)= .ok (match rT (bO c) l 0 with|some i=>.int .i64 (Int.ofNat i)|none=>.int .i64 (Int.negSucc 0)) w:=fun w=>by
   rw[Ef c l 0];have e1:(fun x=>x+0)=(id:Nat→Nat):=rfl
   have hdef:Extern.BytealgIndexByte.indexByte #[.string (ag l),.int .u8 (Int.ofNat c)]=(do
    let b ← Extern.Bytes.bytesOf (.string (ag l))
    let c ← Extern.Bytes.asByte (.int .u8 (Int.ofNat c))
    match (List.range b.size).find? fun i=>b[i]! == c with
    |some i=>pure (goInt i)
    |none=>pure (goInt (-1))):=rfl
   rw[hdef];simp only[Extern.Bytes.bytesOf,Extern.Bytes.asByte,Sem.run_bind,Sem.run_pure,Result.andThen_ok,aC];have e2:(Int.ofNat c).toNat.toUInt8=UInt8.ofNat c:=rfl;rw[e2,e1,Option.map_id];simp only[id]
   cases (List.range l.length).find? fun i=>(ag l)[i]! == UInt8.ofNat c<;>simp[goInt]
  refine⟨fun b hb=>?_,fun w0 ρ w ho hW=>?_⟩
  ·split at h<;>(obtain⟨_,rfl⟩:=zm (zq h);exact hb)
  ·have hr:=uC Tryz.func189 zx zz zz (by kernel_rfl:Extern.find Tryz.f189=some Extern.BytealgIndexByte.indexByte) _ (key w)
   split at h
   ·rename_i i hi;obtain⟨rfl,rfl⟩:=zm (zq h);rw[hi] at hr;exact⟨ρ,w,hr,Post.refl hW,trivial⟩
   ·rename_i hi;obtain⟨rfl,rfl⟩:=zm (zq h);rw[hi] at hr;exact⟨ρ,w,hr,Post.refl hW,trivial⟩
 |false=>
 rw[hg] at h;simp only[cond_false] at h
 cases hg2:Nat.beq g 25 with
 |true=>
  obtain rfl:=(beq_iff _ _).1 hg2;rw[hg2] at h;simp only[cond_true] at h;split at h
  case h_2=>cases h
  case h_1 l c=>
  obtain⟨rfl,rfl⟩:=zm (zq h)
  have key:∀w,((Extern.BytealgCount.count #[.string (ag l),.int .u8 (Int.ofNat c)]).run Tryz.prog w)= .ok (.int .i64 (Int.ofNat (aa2 (bO c) l 0))) w:=fun w=>by
   have hdef:Extern.BytealgCount.count #[.string (ag l),.int .u8 (Int.ofNat c)]=(do
    let b ← Extern.Bytes.bytesOf (.string (ag l))
    let c ← Extern.Bytes.asByte (.int .u8 (Int.ofNat c))
    pure (goInt (b.foldl (fun n x=>if x == c then n+1 else n) (0:Nat)))):=rfl
   rw[hdef];simp only[Extern.Bytes.bytesOf,Extern.Bytes.asByte,Sem.run_bind,Sem.run_pure,Result.andThen_ok,QY,Oe];have e2:(Int.ofNat c).toNat.toUInt8=UInt8.ofNat c:=rfl;have e3:=Ky c (l.map UInt8.ofNat) 0;rw[e2];exact yV (fun n=>Result.ok (goInt n) w) e3
  exact⟨fun b hb=>hb,fun w0 ρ w ho hW=>⟨ρ,w,uC Tryz.func25 zx zz zz (by kernel_rfl:Extern.find Tryz.f25=some Extern.BytealgCount.count) _ (key w),Post.refl hW,trivial⟩⟩
 |false=>
 rw[hg2] at h;simp only[cond_false] at h
 cases hg3:Nat.beq g 191 with
 |true=>
  obtain rfl:=(beq_iff _ _).1 hg3;rw[hg3] at h;simp only[cond_true] at h;split at h
  case h_2=>cases h
  case h_1 x=>
  obtain⟨rfl,rfl⟩:=zm (zq h);exact⟨fun b hb=>hb,fun w0 ρ w ho hW=>⟨ρ,w,uC Tryz.func191 zx zz zz (by kernel_rfl:Extern.find Tryz.f191=some Extern.AbiNoEscape.same) _ (show (Extern.AbiNoEscape.same #[cv ρ x]).run Tryz.prog w=_ from rfl),Post.refl hW,ho.1⟩⟩
 |false=>
 rw[hg3] at h;simp only[cond_false] at h
 cases hg4:Nat.beq g 236 with
 |true=>
  obtain rfl:=(beq_iff _ _).1 hg4;rw[hg4] at h;simp only[cond_true] at h;split at h
  case h_2=>cases h
  case h_1 n=>
  cases hn:Nat.ble n 1099511627776 with
  |false=>rw[hn] at h;cases h
  |true=>
  rw[hn] at h;simp only[cond_true] at h;have hn:=zk hn;obtain⟨rfl,rfl⟩:=zm (zq h);refine⟨fun b hb=>hb,fun w0 ρ w ho hW=>?_⟩
  obtain⟨cs,h1,h2,h3⟩:=run_makeNoZero (P:=Tryz.prog) w #[] 22 5 (Tryz.underlying22) n zy;have h3:=h3 (by simp only[maxLen];omega)
  have hp1:Post w0 ρ W w ρ W w.drew.drew:=hW.quiet ⟨rfl,rfl,rfl,zn _,fun _ _ _=>rfl⟩
  have hp2:Post w0 ρ W w.drew.drew (ρ.up W.nx w.heap.size cs.size) (W.push (.cells [] 5 (some 1))) (w.drew.drew.alloc (.cells cs 5)):=hp1.rep.new (kF _ _) (zn _) zw trivial (by
   refine⟨0,cs,?_,zF _,?_,?_,rfl,rfl⟩
   ·rw[Env.aM];exact yJ _ _
   ·rw[Env.bX];exact h3
   ·rw[Env.bX,vP])
  have hcv:cv (ρ.up W.nx w.heap.size cs.size) (.slice W.nx 0 0 n none)= .slice (some ⟨w.heap.size,0,none⟩) n cs.size:=by
   simp only[cv,Env.aM,Env.bX,Nat.sub_zero]
  refine⟨ρ.up W.nx w.heap.size cs.size,_,?_,hp1.trans hp2,zS _⟩;rw[hcv];exact uC Tryz.func236 zx zz zz (by kernel_rfl:Extern.find Tryz.f236=some (Extern.BytealgMakeNoZero.makeNoZero #[3] #[22])) _ h1
 |false=>
  rw[hg4] at h
  cases h
end Ex
section
open Go.RowKit
def IM (s:ByteArray)(c:UInt8)(r:Int):Prop:=∀w:World,(callFunc 189 #[.string s,.int .u8 (c.toNat:Int)]).run Tryz.prog w= .ok (.value (.int .i64 r)) w
theorem VH (s:ByteArray)(c:UInt8)(r:Int)(w:World)(h:IM s c r):
 Calls Tryz.prog 116 #[.string s,.int .u8 (c.toNat:Int)] w fun e w'=>e= .returned (.int .i64 r)∧w=w':=by
 have hx:=h w;clear h;go_enter Tryz.func116,Tryz.ntmps116
 go_wp2_with (simp only[hx])
 go_ret;exact⟨rfl,rfl⟩
theorem qF (s m:ByteArray)(c:UInt8)(r:Int)(w:World)(hm:m=⟨#[c]⟩)(hs:s.size≠1)(h:IM s c r):
 Calls Tryz.prog 61 #[.string s,.string m] w fun e w'=>e= .returned (.int .i64 r)∧w=w':=by
 have CB:=zo (fun W=>VH s c r W h)
 have hms:m.size=1:=by rw[hm];rfl
 have hm0:m[0]'(by omega)=c:=by subst hm;rfl
 have heq:(m.toList == s.toList)=false:=by
  rw[wU];intro e;have e2:m.toList=s.toList:=by simpa using e
  have h0:∀b:ByteArray,b.toList=b.data.toList:=fun b=>ByteArray.toList_mk b.data.toList
  have h1:m.data.toList.length=s.data.toList.length:=by rw[← h0,← h0,e2]
  rw[bF,bF] at h1;omega
 clear hm h;go_enter Tryz.func61,Tryz.ntmps61
 go_wp2_with (go_at_call 116;refine (CB.out _).mono ?_;rintro e w' ⟨rfl,rfl⟩)
 all_goals go_ret
 all_goals exact⟨rfl,rfl⟩
theorem afd (s m:ByteArray)(c:UInt8)(i:Nat)(w:World)(hm:m=⟨#[c]⟩)(hs:s.size≠1)(hl:i≤1099511627776)(hi:i < s.size)(h:IM s c (i:Int)):
 Calls Tryz.prog 311 #[.string s,.string m] w fun e w'=>e= .returned (.tuple #[.string (s.extract 0 i),.string (s.extract (i+1) s.size),.bool true])∧Below w.heap.size w w':=by
 have CI:=zo (fun W=>qF s m c i W hm hs h)
 have hms:m.size=1:=by rw[hm];rfl
 have C1:∀W:World,Calls Tryz.prog 351 #[.string s,.string m] W fun e w'=>e= .returned (.tuple #[.string (s.extract 0 i),.string (s.extract (i+1) s.size),.bool true])∧Below W.heap.size W w':=fun W=>by
  have hge:((0:Int)≤(i:Int)):=zy;have hsl:(i:Int)≤9223372036854775807:=zy;have hs2:(i:Int)≤(s.size:Int):=zy;have hs3:(i:Int)+1≤(s.size:Int):=zy;have hs4:(0:Int)≤(i:Int)+1:=zy;have HI:=zo hi;clear h hm hi;go_enter Tryz.func351,Tryz.ntmps351
  go_wp2_with (first|(simp only)|(go_at_call 61;refine (CI.out _).mono ?_;rintro e w' ⟨rfl,rfl⟩))
  go_region
  all_goals go_wp2
  all_goals go_ret3
  all_goals exact⟨zw,⟨rfl,rfl,rfl,zn _,fun _ _=>rfl⟩⟩
 go_enter Tryz.func311,Tryz.ntmps311;clear h hm hi
 go_wp2_with (go_at_call 351;refine (C1 _).mono ?_;rintro e w' ⟨rfl,hb⟩)
 all_goals go_ret3
 all_goals exact⟨rfl,hb⟩
theorem ajL (s m:ByteArray)(c:UInt8)(w:World)(hm:m=⟨#[c]⟩)(hs:s.size≠1)(h:IM s c (-1)):
 Calls Tryz.prog 311 #[.string s,.string m] w fun e w'=>e= .returned (.tuple #[.string s,.string ⟨#[]⟩,.bool false])∧w=w':=by
 have CI:=zo (fun W=>qF s m c (-1) W hm hs h)
 have C1:∀W:World,Calls Tryz.prog 351 #[.string s,.string m] W fun e w'=>e= .returned (.tuple #[.string s,.string ⟨#[]⟩,.bool false])∧W=w':=fun W=>by
  clear h hm;go_enter Tryz.func351,Tryz.ntmps351
  go_wp2_with (go_at_call 61;refine (CI.out _).mono ?_;rintro e w' ⟨rfl,rfl⟩)
  all_goals go_ret3
  all_goals exact⟨rfl,rfl⟩
 go_enter Tryz.func311,Tryz.ntmps311;clear h hm
 go_wp2_with (go_at_call 351;refine (C1 _).mono ?_;rintro e w' ⟨rfl,rfl⟩)
 all_goals go_ret3
 all_goals exact⟨rfl,rfl⟩
end
namespace Ex
open Go.RowKit
def afe (c:Nat):List Nat→List Nat→Option (List Nat×List Nat)
 |[],_=>none
 |x::l,acc=>cond (Nat.beq (bO x) c) (some (acc.reverse,l)) (afe c l (x::acc))
theorem nK (c:Nat):∀(l:List Nat) (k:Nat),rT c l k=(rT c l 0).map (· +k)
 |[],k=>rfl
 |x::l,k=>by
  unfold rT;rw[nK c l (k+1),nK c l (0+1)]
  cases Nat.beq (bO x) c
  ·simp only[cond_false,Option.map_map]
   congr 1
   funext n
   simp only[Function.comp_apply];omega
  ·simp
theorem Tn (c:Nat):∀(l acc:List Nat),afe c l acc=(rT c l 0).map fun i=>(acc.reverse++l.take i,l.drop (i+1))
 |[],acc=>rfl
 |x::l,acc=>by
  unfold afe rT
  cases Nat.beq (bO x) c
  ·simp only[cond_false];rw[Tn c l (x::acc),nK c l (0+1),Option.map_map]
   congr 1
   funext i
   simp only[Function.comp_apply,List.reverse_cons,List.append_assoc,List.singleton_append,List.take_succ_cons,List.drop_succ_cons,Nat.zero_add]
  ·simp
theorem SI (c:Nat):∀(l:List Nat) {i:Nat},rT c l 0=some i→i < l.length
 |[],i,h=>by cases h
 |x::l,i,h=>by
  unfold rT at h
  cases hx:Nat.beq (bO x) c with
  |true=>
   rw[hx] at h;obtain rfl:=zq h;simp
  |false=>
   rw[hx] at h;simp only[cond_false] at h;rw[nK c l (0+1)] at h;obtain⟨j,hj,rfl⟩:=zi.1 h;have:=SI c l hj;simp only[List.length_cons];omega
def ajM:List AV→Option AV
 |[.str l,.str [c]]=>match l with
  |[_]=>none
  |_=>match afe (bO c) l [] with
   |some (a,b)=>cond (Nat.ble a.length 1099511627776) (some (.tuple [.str a,.str b,.bool true])) none
   |none=>some (.tuple [.str l,.str [],.bool false])
 |_=>none
theorem ajK:ai Tryz.prog (MS 311 ajM):=JF Tryz.func311 zx zz fun args v h=>by
 unfold ajM at h;split at h
 case h_2=>cases h
 case h_1 l c=>
 split at h
 ·cases h
 ·rename_i hne
  have hs:(ag l).size≠1:=by
   rw[aC];intro e;obtain⟨x,rfl⟩:=List.length_eq_one_iff.1 e;exact hne x rfl
  have hm:ag [c]=⟨#[UInt8.ofNat c]⟩:=rfl;have hcn:((UInt8.ofNat c).toNat:Int)=Int.ofNat (bO c):=by simp[bO]
  have hlow:bO (bO c)=bO c:=by simp[bO]
  rw[Tn] at h
  cases hi:rT (bO c) l 0 with
  |none=>
   rw[hi] at h;obtain rfl:=zq h
   have hx:IM (ag l) (UInt8.ofNat c) (-1):=fun w=>by
    have:=SH l (bO c) w;rw[hlow,hi] at this;rw[hcn];exact this
   refine⟨fun n=>⟨trivial,trivial,trivial,trivial⟩,fun ρ w=>(ajL (ag l) (ag [c]) (UInt8.ofNat c) w hm hs hx).mono ?_⟩
   rintro e w' ⟨rfl,rfl⟩;exact⟨rfl,zh _ _⟩
  |some i=>
   rw[hi] at h;simp only[Option.map_some,List.reverse_nil,List.nil_append] at h;have hlt:=SI _ _ hi;have hlen:(l.take i).length=i:=by rw[zJ];omega
   cases hb:Nat.ble (l.take i).length 1099511627776 with
   |false=>rw[hb] at h;cases h
   |true=>
   rw[hb] at h;obtain rfl:=zq h;have hb:=zk hb
   have hx:IM (ag l) (UInt8.ofNat c) (i:Int):=fun w=>by
    have:=SH l (bO c) w;rw[hlow,hi] at this;rw[hcn];exact this
   refine⟨fun n=>⟨trivial,trivial,trivial,trivial⟩,fun ρ w=>(afd (ag l) (ag [c]) (UInt8.ofNat c) i w hm hs zy (by rw[aC];exact hlt) hx).mono ?_⟩
   rintro e w' ⟨rfl,hbw⟩;refine⟨?_,hbw⟩;have e1:(ag l).extract 0 i=ag (l.take i):=by rw[nN];simp
   have e2:(ag l).extract (i+1) (ag l).size=ag (l.drop (i+1)):=by
    rw[nN,aC]
    congr 1
    exact yn (by rw[zH];omega)
   rw[e1,e2];rfl
def S1:aj:=qX (MS 311 ajM) S0
theorem BO:ai Tryz.prog S1:=bN ajK an1
def gH:List Nat→List Nat→Bool
 |[],[]=>true
 |x::l,y::m=>cond (Nat.beq x y) (gH l m) false
 |_,_=>false
theorem bJ:∀{l m:List Nat},gH l m=true→l=m
 |[],[],_=>rfl
 |[],_::_,h=>by cases h
 |_::_,[],h=>by cases h
 |x::l,y::m,h=>by
  unfold gH at h
  cases hx:Nat.beq x y with
  |false=>rw[hx] at h;cases h
  |true=>
   rw[hx] at h;rw[(beq_iff _ _).1 hx,bJ h]
def Yx:Option Nat→Option Nat→Bool
 |none,none=>true
 |some a,some b=>Nat.beq a b
 |_,_=>false
theorem ML {a b:Option Nat}(h:Yx a b=true):a=b:=by
 cases a<;>cases b<;>first|rfl|(cases h;done)|(rw[(beq_iff _ _).1 h])
def nJ:Int→Int→Bool
 | .ofNat a,.ofNat b=>Nat.beq a b
 | .negSucc a,.negSucc b=>Nat.beq a b
 |_,_=>false
theorem eY {a b:Int}(h:nJ a b=true):a=b:=by
 cases a<;>cases b<;>first|(cases h;done)|(rw[(beq_iff _ _).1 h])
mutual
def mW:AV→AV→Bool
 | .bool a,x=>match x with | .bool b=>cond a b (!b)|_=>false
 | .int k a,x=>match x with | .int k' b=>cond (ZA k k') (nJ a b) false|_=>false
 | .str l,x=>match x with | .str m=>gH l m|_=>false
 | .ptr b o,x=>match x with | .ptr b' o'=>cond (Nat.beq b b') (Nat.beq o o') false|_=>false
 | .bU,x=>match x with | .bU=>true|_=>false
 | .bT,x=>match x with | .bT=>true|_=>false
 | .slice b o k n c,x=>match x with | .slice b' o' k' n' c'=>cond (Nat.beq b b') (cond (Nat.beq o o') (cond (Nat.beq k k') (cond (Nat.beq n n') (Yx c c') false) false) false) false|_=>false
 | .iface t v,x=>match x with | .iface t' v'=>cond (Nat.beq t t') (mW v v') false|_=>false
 | .agg l,x=>match x with | .agg m=>lI l m|_=>false
 | .tuple l,x=>match x with | .tuple m=>lI l m|_=>false
 |_,_=>false
def lI:List AV→List AV→Bool
 |[],x=>match x with|[]=>true|_=>false
 |v::l,x=>match x with|u::m=>cond (mW v u) (lI l m) false|_=>false
end
mutual
theorem lH:∀{a b:AV},mW a b=true→a=b
 | .bool a,.bool b,h=>by cases a<;>cases b<;>first|rfl|cases h
 | .int k a,.int k' b,h=>by
   simp only[mW] at h
   cases h1:ZA k k' with
   |false=>rw[h1] at h;cases h
   |true=>
    rw[h1] at h;rw[Eb h1,eY h]
 | .str l,.str m,h=>by rw[bJ h]
 | .ptr b o,.ptr b' o',h=>by
   simp only[mW] at h
   cases h1:Nat.beq b b' with
   |false=>rw[h1] at h;cases h
   |true=>
    rw[h1] at h;rw[(beq_iff _ _).1 h1,(beq_iff _ _).1 h]
 | .bU,.bU,_=>rfl
 | .bT,.bT,_=>rfl
 | .slice b o k n c,.slice b' o' k' n' c',h=>by
   simp only[mW] at h
   cases h1:Nat.beq b b' with
   |false=>rw[h1] at h;cases h
   |true=>
   cases h2:Nat.beq o o' with
   |false=>rw[h1,h2] at h;cases h
   |true=>
   cases h3:Nat.beq k k' with
   |false=>rw[h1,h2,h3] at h;cases h
   |true=>
   cases h4:Nat.beq n n' with
   |false=>rw[h1,h2,h3,h4] at h;cases h
   |true=>
    rw[h1,h2,h3,h4] at h;rw[(beq_iff _ _).1 h1,(beq_iff _ _).1 h2,(beq_iff _ _).1 h3,(beq_iff _ _).1 h4,ML h]
 | .iface t v,.iface t' v',h=>by
   simp only[mW] at h
   cases h1:Nat.beq t t' with
   |false=>rw[h1] at h;cases h
   |true=>
    rw[h1] at h;rw[(beq_iff _ _).1 h1,lH (show mW v v'=true from h)]
 | .agg l,.agg m,h=>by rw[fE (show lI l m=true from h)]
 | .tuple l,.tuple m,h=>by rw[fE (show lI l m=true from h)]
theorem fE:∀{l m:List AV},lI l m=true→l=m
 |[],[],_=>rfl
 |v::l,u::m,h=>by
  simp only[lI] at h
  cases h1:mW v u with
  |false=>rw[h1] at h;cases h
  |true=>
   rw[h1] at h;rw[lH h1,fE h]
end
theorem NU (ρ ρ':Env):Ext 0 ρ ρ':=⟨fun _b hb=>absurd hb (yf _),fun _b hb=>absurd hb (yf _),fun _b hb=>absurd hb (yf _)⟩
theorem aaf {l:List AV}(h:gY l=true)(ρ ρ':Env):aH ρ' l=aH ρ l:=cz (NU ρ ρ') l (iT 0 l h)
def TE:AV→AV→Bool
 | .str l,.str m=>gH l m
 | .int k (.ofNat a),.int k' (.ofNat b)=>ZA k k' && Nat.beq a b
 | .bool a,.bool b=>cond a b (!b)
 |_,_=>false
theorem abw {a b:AV}(h:TE a b=true):a=b:=by
 unfold TE at h;split at h
 ·rw[bJ h]
 ·simp only[Bool.and_eq_true] at h;rw[Eb h.1,(beq_iff _ _).1 h.2]
 ·rename_i a b
  cases a<;>cases b<;>first|rfl|cases h
 ·cases h
def Fg:List AV→List AV→Bool
 |[],[]=>true
 |x::l,y::m=>cond (TE x y) (Fg l m) false
 |_,_=>false
theorem IA:∀{l m:List AV},Fg l m=true→l=m
 |[],[],_=>rfl
 |[],_::_,h=>by cases h
 |_::_,[],h=>by cases h
 |x::l,y::m,h=>by
  unfold Fg at h
  cases hx:TE x y with
  |false=>rw[hx] at h;cases h
  |true=>
   rw[hx] at h;rw[abw hx,IA h]
end Ex
