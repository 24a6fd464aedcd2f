/- Parts of the proof of TopLines. -/
import Derived.Test.YtpjjgpjhpobkiaaGreatDoorMQa
set_option maxHeartbeats 4000000
set_option maxRecDepth 100000
namespace Go.Proofs.YtpjjgpjhpobkiaaGreatDoor
open Go.RowKit Ex
namespace Ex
open Go.RowKit
def fe:List (List Nat):=(match RQ with
 |[(_,.map es _)]=>es.map fun x=>match x.1 with
  | .str l=>l
  |_=>[]
 |_=>[])
def jI (s:ByteArray):Bool:=fe.any fun l=>decide (ag l=s)
theorem Ze {w:World}{r clock:Nat}{es:Array MapEntry}(hh:w.heap[r]? =some (.map es clock))(he:∀e∈es.toList,∃t,e.key= .string t∧e.val= .bool true)(s:ByteArray)(b:Bool)(hb:b=true↔∃e∈es.toList,e.key= .string s):
 (Instr.lookup 195 (.map (some r)) (.string s) false).run Tryz.prog w= .ok (.bool b) w:=by
 have hu:Tryz.prog.underlying 195=some (.map 9 4):=by kernel_rfl
 have ZP:Tryz.prog.underlying 9=some .string:=by kernel_rfl
 have hz:(zeroValue 4).run Tryz.prog w= .ok (.bool false) w:=by kernel_rfl
 have hk:Go.MapKept.IsKey .string (.string s):=trivial;have hck:∀e,(Instr.checkKey e 10000 9 (.string s)).run Tryz.prog w= .ok () w:=fun e=>Go.MapKept.run_checkKey ZP hk e 9999
 have hkeys:∀x∈es.toList,Go.MapKept.IsKey .string x.key:=fun x hx=>by
  obtain⟨t,ht,_⟩:=he x hx;rw[ht];trivial
 rcases Go.MapKept.findNow_spec hk es.toList 0 hkeys with⟨h1,h2⟩|⟨j,e,h1,h2,h3⟩
 ·have hf:=Go.MapKept.run_findKey (w:=w) ZP h1
  have:b=false:=by
   cases b
   ·rfl
   ·obtain⟨x,hx,hxk⟩:=hb.1 rfl;exact (h2 x hx hxk).elim
  subst this;simp only[Instr.lookup,Sem.run_bind,run_underlying hu,Result.andThen_ok,Go.MapKept.run_getObj_map hh,Sem.run_pure,hck,hf,hz];rfl
 ·have hf:=Go.MapKept.run_findKey (w:=w) ZP h1;have hmem:e∈es.toList:=zD h2;have:b=true:=hb.2 ⟨e,hmem,h3⟩;subst this;obtain⟨t,_,hv⟩:=he e hmem;rw[hv] at hf;simp only[Instr.lookup,Sem.run_bind,run_underlying hu,Result.andThen_ok,Go.MapKept.run_getObj_map hh,Sem.run_pure,hck,hf];rfl
def strKeys:List (AV×AV×Nat)→Bool
 |[]=>true
 |(.str _,.bool true,_)::l=>strKeys l
 |_=>false
theorem sN {ρ:Env}:∀{es:List (AV×AV×Nat)},strKeys es=true→∀e∈es.map (aI ρ),∃t,e.key= .string t∧e.val= .bool true
 |[],_,e,he=>by cases he
 |x::l,h,e,he=>by
  unfold strKeys at h;split at h
  ·rename_i q;cases q
  ·rename_i t c l' q;obtain⟨rfl,rfl⟩:=yP q;rw[zO] at he;rcases zQ.1 he with rfl|he
   ·exact⟨_,rfl,rfl⟩
   ·exact sN h e he
  ·cases h
theorem PG:∃es clock,RQ=[(0,.map es clock)]∧strKeys es=true∧fe=es.map fun x=>match x.1 with
 | .str l=>l
 |_=>[]:=⟨_,_,rfl,zz,rfl⟩
theorem any_keys (ρ:Env)(s:ByteArray):∀{es:List (AV×AV×Nat)},strKeys es=true→(((es.map fun x=>match x.1 with
 | .str l=>l
 |_=>[]).any fun l=>decide (ag l=s))=true↔∃e∈es.map (aI ρ),e.key= .string s)
 |[],_=>by simp
 |x::l,h=>by
  unfold strKeys at h;split at h
  ·rename_i q;cases q
  ·rename_i t c l' q;obtain⟨rfl,rfl⟩:=yP q;rw[zO,zO,xX,Bool.or_eq_true,any_keys ρ s h];constructor
   ·rintro (h1|⟨e,he,hk⟩)
    ·refine⟨_,zb,?_⟩;show Value.string (ag t)=_;rw[xu h1]
    ·exact⟨e,ze _ he,hk⟩
   ·rintro ⟨e,he,hk⟩;rcases zQ.1 he with rfl|he
    ·have hk:Value.string (ag t)=Value.string s:=hk;injection hk with hk
     exact .inl (zC hk)
    ·exact .inr ⟨e,he,hk⟩
  ·cases h
theorem ac8 (w:World)(hG:eT w):
 Calls Tryz.prog 94 #[] w fun e w'=>∃r,e= .returned (.map (some r))∧(∀W,Below w'.heap.size w' W→∀s,(Instr.lookup 195 (.map (some r)) (.string s) false).run Tryz.prog W= .ok (.bool (jI s)) W)∧Below w.heap.size w w':=by
 refine (qJ (aT fB KU) (OA Me) rfl trivial w hG).mono ?_;rintro e w' ⟨ρ,rfl,hr,hb⟩;obtain⟨es,clock,h1,h2,h3⟩:=PG;have hh:=(hr 0 (.map es clock) (by rw[h1];exact aA _ _ _)).1
 refine⟨ρ.blk 0,rfl,fun W hW s=>?_,hb⟩
 have hh':W.heap[ρ.blk 0]? =some (.map (es.map (aI ρ)).toArray clock):=(hW.block _ (lt_of_heap hh)).trans hh;refine Ze hh' (by simpa using sN h2) s _ ?_
 unfold jI;rw[h3];exact any_keys ρ s h2
def allM (f:List Nat→Bool):List (List Nat)→Bool
 |[]=>true
 |x::l=>cond (f x) (allM f l) false
theorem aU {f:List Nat→Bool}:∀{l:List (List Nat)} {x:List Nat},allM f l=true→x∈l→f x=true
 |[],_,_,h=>by cases h
 |y::l,x,h,hx=>by
  unfold allM at h
  cases hy:f y with
  |false=>rw[hy] at h;cases h
  |true=>
   rw[hy] at h;rcases zQ.1 hx with rfl|hx
   ·exact hy
   ·exact aU h hx
theorem Kj:∀{l m:List Nat},(∀x∈l,x < 256)→(∀x∈m,x < 256)→NW l m=true→l=m
 |[],[],_,_,_=>rfl
 |[],_::_,_,_,h=>by cases h
 |_::_,[],_,_,h=>by cases h
 |x::l,y::m,h1,h2,h=>by
  unfold NW at h;have a1:=h1 x zb;have a2:=h2 y zb
  cases hb:Nat.beq (bO x) (bO y) with
  |false=>rw[hb] at h;cases h
  |true=>
   rw[hb] at h;have:=(beq_iff _ _).1 hb;unfold bO at this;rw[Kj (fun z hz=>h1 z (ze _ hz)) (fun z hz=>h2 z (ze _ hz)) h,show x=y by omega]
abbrev akc (w:World)(L:ByteArray)(nm:List Nat)(b:Bool):Prop:=∀W,Below w.heap.size w W→Calls Tryz.prog 170 #[.string L,.string (ag nm)] W fun e w'=>e= .returned (.bool b)∧Below W.heap.size W w'
def ais:List Nat:=[83,85,66,32,65,78,68,32,88,79,82,32,79,82,32,67,80]
def aiu:List Nat:=[65,68,68,32,65,68,67,32,83,66,67]
def ait:List Nat:=[66,73,84,32,82,69,83,32,83,69,84,32,73,77,32,82,83,84,32,79,85,84]
def nJp:List Nat:=[74,80,32,67,65,76,76]
def aaw:List (List Nat)→List (List Nat)→Bool
 |[],[]=>true
 |x::l,y::m=>cond (gH x y) (aaw l m) false
 |_,_=>false
theorem Kk:∀{l m:List (List Nat)},aaw l m=true→l=m
 |[],[],_=>rfl
 |[],_::_,h=>by cases h
 |_::_,[],h=>by cases h
 |x::l,y::m,h=>by
  unfold aaw at h
  cases hx:gH x y with
  |false=>rw[hx] at h;cases h
  |true=>
   rw[hx] at h;rw[bJ hx,Kk h]
def strsOf:List AV→Option (List (List Nat))
 |[]=>some []
 | .str l::r=>(strsOf r).map (l:: ·)
 |_::_=>none
def rowOf:Option (AV×AW)→Option (List (List Nat))
 |some (sl,W)=>match W.az with
  |[]=>match sl with
   | .bT=>some []
   | .slice b 0 0 m none=>match au b W.bl with
     |some (.cells vs _ (some 1))=>cond (Nat.beq m vs.length) (strsOf vs) none
     |_=>none
   | .slice b 0 0 m (some _)=>match au b W.bl with
     |some (.cells vs _ none)=>cond (Nat.beq m vs.length) (strsOf vs) none
     |_=>none
   |_=>none
  |_=>none
 |none=>none
theorem oO {ρ:Env}:∀{vs:List AV} {ls:List (List Nat)},strsOf vs=some ls→aH ρ vs=FE (ls.map ag)∧ls.length=vs.length
 |[],ls,h=>by
  obtain rfl:=zq h;exact⟨rfl,rfl⟩
 |v::r,ls,h=>by
  unfold strsOf at h;split at h
  ·rename_i e;cases e
  ·rename_i l r' e;obtain⟨rfl,rfl⟩:=yP e;obtain⟨m,hm,rfl⟩:=zi.1 h;obtain⟨h1,h2⟩:=oO (ρ:=ρ) hm;exact⟨by simp only[aH,cv,h1,FE,List.map_cons],by simp[h2]⟩
  ·cases h
theorem Oo {call:aj}(hC:ai Tryz.prog call){g:Nat}{args:List AV}{ls:List (List Nat)}(hr:rowOf (call g args ⟨0,[],[],bE⟩)=some ls)(hf:oks 0 args)(w:World)(hG:eT w):
 Calls Tryz.prog g (aH iY args).toArray w fun e w'=>∃A c,e= .returned (.slice A ls.length c)∧Rd w' (fun b=>w.heap.size≤b) A (FE (ls.map ag))∧Below w.heap.size w w':=by
 unfold rowOf at hr;split at hr
 case h_2=>cases hr
 case h_1 sl W hq=>
 split at hr
 case h_2=>cases hr
 case h_1 hm=>
 refine (qJ hC hq hm hf w hG).mono ?_;rintro e w' ⟨ρ,rfl,hrep,hb⟩;split at hr
 ·obtain rfl:=zq hr;exact⟨none,0,rfl,Rd.nil _ _ _,hb⟩
 ·rename_i b m;split at hr
  ·rename_i vs T hbl
   cases hmm:Nat.beq m vs.length with
   |false=>rw[hmm] at hr;cases hr
   |true=>
    rw[hmm] at hr;obtain⟨h1,h2⟩:=oO (ρ:=ρ) hr;obtain⟨r1,r2⟩:=hrep b _ hbl;obtain⟨k1,_⟩:=ahG r1;refine⟨some ⟨ρ.blk b,0,none⟩,ρ.cap b - 0,?_,?_,hb⟩
    ·show Ending.returned (.slice _ m _)=_;rw[(beq_iff _ _).1 hmm,h2]
    ·rw[← h1]
     exact fun hx=>by
      obtain⟨ad,e1,_,e3⟩:=k1 hx;obtain rfl:=zq e1;exact⟨_,rfl,r2,e3⟩
  ·cases hr
 ·rename_i b m cc;split at hr
  ·rename_i vs T hbl
   cases hmm:Nat.beq m vs.length with
   |false=>rw[hmm] at hr;cases hr
   |true=>
    rw[hmm] at hr;obtain⟨h1,h2⟩:=oO (ρ:=ρ) hr;obtain⟨r1,r2⟩:=hrep b _ hbl;have r1:w'.heap[ρ.blk b]? =some (.cells (aH ρ vs).toArray T (0,0)):=r1;refine⟨some ⟨ρ.blk b,0,none⟩,cc,?_,?_,hb⟩
    ·show Ending.returned (.slice _ m _)=_;rw[(beq_iff _ _).1 hmm,h2]
    ·rw[← h1];refine fun _=>⟨_,rfl,r2,fun j u hu=>?_⟩
     rw[OG,yD];simp only[World.cell?,r1]
     simpa using hu
  ·cases hr
 ·cases hr
noncomputable abbrev UB (t:List Nat):Option (AV×AW):=dx OV 226 [.str t] ⟨0,[],[],bE⟩
def rq (q:Option (List (List Nat)))(l:List (List Nat)):Bool:=match q with
 |some m=>aaw m l
 |none=>false
theorem aeL:rq (rowOf (UB ais)) ahb=true:=by kernel_rfl
theorem aeN:rq (rowOf (UB aiu)) ahd=true:=by kernel_rfl
theorem aeM:rq (rowOf (UB ait)) ahc=true:=by kernel_rfl
theorem ajc:rq (rowOf (UB nJp)) wJp=true:=by kernel_rfl
theorem afY {q:Option (List (List Nat))}{l:List (List Nat)}(h:rq q l=true):q=some l:=by
 unfold rq at h;split at h
 ·rw[Kk h]
 ·cases h
theorem DX {nm:List Nat}(hnm:∀x∈nm,x < 256):∀{ws:List (List Nat)},(∀l∈ws,∀x∈l,x < 256)→((ws.map ag).any fun t=>decide (ag nm=t))=qN nm ws
 |[],_=>rfl
 |x::ws,h=>by
  unfold qN;rw[zO,xX,xX];have:=DX hnm (ws:=ws) fun l hl=>h l (ze _ hl)
  unfold qN at this;rw[this]
  congr 1
  refine decide_eq_decide.2 ⟨fun e=>?_,fun e=>by rw[e]⟩
  have e2:NW x nm=true:=by
   rw[← uP,← e];exact beq_self_eq_true _
  exact Kj (h x zb) hnm e2
theorem acr {t:List Nat}{ws:List (List Nat)}(h:rq (rowOf (UB t)) ws=true)(hws:∀l∈ws,∀x∈l,x < 256)(hl:ws.length≤100){nm:List Nat}(hm:∀x∈nm,x < 256){w:World}(hG:eT w):akc w (ag t) nm (qN nm ws):=fun W hW=>by
 have C1:Hid (Calls Tryz.prog 226 #[.string (ag t)] W fun e w'=>∃A c,e= .returned (.slice A ws.length c)∧Rd w' (fun b=>W.heap.size≤b) A (FE (ws.map ag))∧Below W.heap.size W w'):=Oo (aT fB nR) (afY h) ⟨trivial,trivial⟩ W (hG.after hW)
 have C2:=zo (fun (W':World) A c (hr:Rd W' (fun b=>W.heap.size≤b) A (FE (ws.map ag)))=>Od A (ws.map ag) ws.length c (ag nm) W' _ zw zy hr)
 have HM:=zo (DX hm hws);clear hW hG hws hm h hl;go_enter Tryz.func170,Tryz.ntmps170
 go_wp2_with (first
  |(go_at_call 226;refine C1.mono ?_;rintro e w1 ⟨A,c,rfl,hr,hb⟩;have HR:=zo hr;have HB:=zo hb;clear hr hb)
  |(go_at_call 237;refine (C2.out _ _ _ HR.out).mono ?_;rintro e w2 ⟨rfl,rfl⟩))
 go_ret;exact⟨dz (by rw[← HM.out,List.any_map]),HB.out⟩
def ltB (nm:List Nat):Bool:=kV (fun x=>Nat.blt x 256) nm
theorem ah6:allM ltB fe=true:=by kernel_rfl
theorem MM {nm:List Nat}(hm:nm∈fe):∀x∈nm,x < 256:=fun _ hx=>aK (bM (f:=fun x=>Nat.blt x 256) (aU ah6 hm) hx)
theorem PZ:allM (fun nm=>cond (Nat.ble nm.length 4) (kV (fun x=>cond (Nat.ble 65 x) (Nat.ble x 90) false) nm) false && !(gH nm [])) fe=true:=by kernel_rfl
noncomputable def aqg:Bool:=kV (fun k=>kV (fun j=>nq (Aq (dx OV 249 [.agg [.int .i64 (.ofNat k),.int .i64 (.ofNat j),.int .i64 (.ofNat 0)]] ⟨0,[],[],bE⟩)) (Qx k j)) (oV k)) [1,2,3,4,5,6,7,8,9,10]
theorem aew:aqg=true:=by kernel_rfl
theorem qF {k j:Nat}(h1:1≤k)(h2:k≤10)(hj:j∈oV k)(w:World)(hG:eT w):Calls Tryz.prog 249 #[.agg #[.int .i64 (k:Int),.int .i64 (j:Int),.int .i64 0]] w fun e w'=>e= .returned (.int .i64 (Qx k j:Nat))∧Below w.heap.size w w':=by
 have hk:k∈[1,2,3,4,5,6,7,8,9,10]:=by simp;omega
 have h3:=bM (f:=fun k=>kV (fun j=>nq (Aq (dx OV 249 [.agg [.int .i64 (.ofNat k),.int .i64 (.ofNat j),.int .i64 (.ofNat 0)]] ⟨0,[],[],bE⟩)) (Qx k j)) (oV k)) aew hk
 have h4:=YO (bM (f:=fun j=>nq (Aq (dx OV 249 [.agg [.int .i64 (.ofNat k),.int .i64 (.ofNat j),.int .i64 (.ofNat 0)]] ⟨0,[],[],bE⟩)) (Qx k j)) h3 hj)
 exact Oq (args:=[.agg [.int .i64 (.ofNat k),.int .i64 (.ofNat j),.int .i64 (.ofNat 0)]]) (aT fB nR) h4 ⟨⟨trivial,trivial,trivial,trivial⟩,trivial⟩ w hG
def Rx:List Nat→List Nat
 |[]=>[]
 |c::l=>cond (Nat.beq c 32) [] (c::Rx l)
def Xa (r:List Nat):List Nat:=Rx (r.drop 9)
def gB (nm:List Nat):List (List Nat)→List (List Nat)
 |[]=>[]
 |r::l=>cond (gH (Xa r) nm) (r::gB nm l) (gB nm l)
noncomputable def eU (pt:List Nat)(rl:List (List Nat))(nm:List Nat):Bool:=rq (rowOf (dx p9 243 [.str pt,.str nm] ⟨0,[],[],bE⟩)) (gB nm rl)
def YF:List (List Nat):=[[65,68,67],[65,68,68],[65,78,68],[66,73,84],[67,65,76,76],[67,67,70],[67,80],[67,80,68],[67,80,68,82]]
def YE:List (List Nat):=[[67,80,73],[67,80,73,82],[67,80,76],[68,65,65],[68,69,67],[68,73],[68,74,78,90],[69,73],[69,88]]
def YD:List (List Nat):=[[69,88,88],[72,65,76,84],[73,77],[73,78],[73,78,67],[73,78,68],[73,78,68,82],[73,78,73],[73,78,73,82]]
def YC:List (List Nat):=[[74,80],[74,82],[76,68],[76,68,68],[76,68,68,82],[76,68,73],[76,68,73,82],[78,69,71],[78,79,80]]
def YB:List (List Nat):=[[79,82],[79,84,68,82],[79,84,73,82],[79,85,84],[79,85,84,68],[79,85,84,73],[80,79,80],[80,85,83,72],[82,69,83]]
def YA:List (List Nat):=[[82,69,84],[82,69,84,73],[82,69,84,78],[82,76],[82,76,65],[82,76,67],[82,76,67,65],[82,76,68],[82,82]]
def Yz:List (List Nat):=[[82,82,65],[82,82,67],[82,82,67,65],[82,82,68],[82,83,84],[83,66,67],[83,67,70],[83,69,84],[83,76,65]]
def Yy:List (List Nat):=[[83,76,76],[83,82,65],[83,82,76],[83,85,66],[88,79,82]]
theorem adG:aaw fe (YF++YE++YD++YC++YB++YA++Yz++Yy)=true:=by kernel_rfl
end Ex
theorem Bk.drew {w:World}{b:Nat}{T:TypeId}{vs:List Value}(h:Bk w b T vs):Bk w.drew b T vs:=h
def Fe:List aG→Nat→Int
 |[],_=>-1
 |o::l,k=>if aP o=false then (k:Int) else Fe l (k+1)
theorem Be:∀{l:List aG} {k i:Nat},(∀j o,j < i→l[j]? =some o→aP o=true)→i≤l.length→Fe l k=Fe (l.drop i) (k+i)
 |l,k,0,_,_=>by simp
 |[],k,i+1,_,h=>by simp at h
 |o::l,k,i+1,h,hl=>by
  have h0:=h 0 o zy rfl;rw[show Fe (o::l) k=(if aP o=false then (k:Int) else Fe l (k+1)) from rfl,h0,vJ]
  simp only[Bool.true_eq_false,if_false];rw[Be (l:=l) (k:=k+1) (i:=i) (fun j t hj ht=>h (j+1) t zy (by simpa using ht)) (by simpa using hl),show k+1+i=k+(i+1) by omega]
theorem Ov:∀(l:List aG) (k:Nat),decide (0≤Fe l k)= !(l.all aP)
 |[],k=>rfl
 |o::l,k=>by
  unfold Fe;rw[vw]
  cases hf:aP o
  ·simp
  ·simp[Ov l (k+1)]
theorem aa8 (o:aG)(ho:B64 o)(w:World)(hG:eT w):
 Calls Tryz.prog 180 #[.agg #[.int .i64 o.1,.int .i64 o.2.1,.int .i64 o.2.2]] w fun e w'=>e= .returned (.bool (!aP o))∧Below w.heap.size w w':=by
 have C:Hid (∀W,Below w.heap.size w W→Calls Tryz.prog 178 #[.agg #[.int .i64 o.1,.int .i64 o.2.1,.int .i64 o.2.2]] W fun e w'=>e= .returned (.bool (aP o))∧Below W.heap.size W w'):=fun W hb=>acL o ho W (hG.after hb)
 have HA:Hid (Below w.heap.size w (w.alloc (.cells #[.int .i64 o.1,.int .i64 o.2.1,.int .i64 o.2.2] 174))):=(zh _ _).alloc (zn _) _;clear ho hG;go_enter Tryz.func180,Tryz.ntmps180
 go_wp2_with (go_at_call 178;refine (C.out _ HA.out).mono ?_;rintro e w1 ⟨rfl,hb⟩;have HB:=zo (HA.trans (hb.mono HA.size));clear hb)
 go_ret;exact⟨rfl,HB.out⟩
theorem ZN (A:Option Addr)(l:List aG)(n c:Nat)(w:World)(p:Nat→Prop)(hG:eT w)(hn:l.length=n)(_hm:(n:Int)≤1000)(h64:∀o∈l,B64 o)(h:Rd w p A (dD l)):
 Calls Tryz.prog 241 #[.slice A n c,.func (.func 180) #[] #[]] w fun e w'=>e= .returned (.int .i64 (Fe l 0))∧Below w.heap.size w w':=by
 have HR:=zo h;have HN:=zo hn;have H64:=zo h64;have HG:=zo hG;clear h hn h64 hG;go_enter Tryz.func241,Tryz.ntmps241;go_wp2
 go_loopw [8] (fun v wr=>∃k:Nat,v= .int .i64 k∧k≤n∧Hid (∀j o,j < k→l[j]? =some o→aP o=true)∧Hid (Below w.heap.size w wr)) (fun v _=>n - (intOf v).toNat)
 case atStart=>exact⟨0,rfl,zy,fun j _ hj=>absurd hj (yf _),zh _ _⟩
 case round=>
  obtain⟨k,rfl,hk,hr,hb⟩:=hrel;by_cases hlt:k < n
  ·have hk1:k < l.length:=by rw[HN.out];exact hlt
   have e1:=zg hk1;obtain⟨o,ho⟩:∃o,l[k]=o:=⟨_,rfl⟩;rw[ho] at e1;obtain⟨q,off,rfl,_,c0,c1,c2⟩:=(HR.after hb.out).o3 e1;have HZ:=zo e1;have C:=zo (aa8 o (H64.out o (zD e1)) wr (HG.after hb.out));clear e1 ho
   cases hv:aP o
   ·have HI:Hid (Fe l 0=(k:Int)):=by
     have h1:=Be (k:=0) hr.out (by have:=HN.out;omega)
     have h2:l.drop k=o::l.drop (k+1):=by
      rw[zK hk1];have:=zg hk1;rw[HZ.out] at this;rw[zq this]
     show _=_;rw[h1,h2];unfold Fe;simp[hv]
    have C':=C.out;rw[hv] at C';have C'':=zo C';clear hv C C'
    go_wp2_with (go_at_call 180;refine C''.mono ?_;rintro e w1 ⟨rfl,hb1⟩;have HB1:=zo (hb.trans (hb1.mono hb.size));clear hb1)
    go_ret;exact⟨iA HI.symm,HB1.out⟩
   ·have HV:=zo hv;have C':=C.out;rw[hv] at C';have C'':=zo C';clear hv C C'
    go_wp2_with (go_at_call 180;refine C''.mono ?_;rintro e w1 ⟨rfl,hb1⟩;have HB1:=zo (hb.trans (hb1.mono hb.size));clear hb1)
    go_roundw
    case rel=>exact⟨k+1,by go_num,zy,fun j t hj ht=>by
     by_cases e:j=k
     ·subst e;rw[HZ.out] at ht;rw[← zq ht];exact HV.out
     ·exact hr.out j t zy ht,HB1.out⟩
    case measure=>simp[intOf];omega
  ·have HI:Hid (Fe l 0= -1):=by
    have h1:=Be (k:=0) (i:=l.length) (fun j t hj=>hr.out j t (by have:=HN.out;omega)) (zn _)
    show _=_;rw[h1,wN];rfl
   go_wp2;go_ret;exact⟨iA HI.symm,hb.out⟩
theorem Wl (A:Option Addr)(l:List aG)(n c:Nat)(w:World)(p:Nat→Prop)(hG:eT w)(hn:l.length=n)(hm:(n:Int)≤1000)(h64:∀o∈l,B64 o)(h:Rd w p A (dD l)):
 Calls Tryz.prog 179 #[.slice A n c,.func (.func 180) #[] #[]] w fun e w'=>e= .returned (.bool (!(l.all aP)))∧Below w.heap.size w w':=by
 have F:=zo (ZN A l n c w p hG hn hm h64 h);have HA:=zo (Ov l 0);clear h hn hm h64 hG;go_enter Tryz.func179,Tryz.ntmps179
 go_wp2_with (go_at_call 241;refine F.mono ?_;rintro e w' ⟨rfl,hb⟩;have HB:=zo hb;clear hb)
 go_ret;exact⟨dz HA.out,HB.out⟩
def pR (s:ByteArray)(l:List aG):Nat:=if jI s=false then 12 else if 3 < l.length then 11 else if l.all aP=false then 2 else 0
theorem Wp (s:ByteArray)(A:Option Addr)(l:List aG)(n c:Nat)(w:World)(p:Nat→Prop)(hG:eT w)(hn:l.length=n)(hm:(n:Int)≤1000)(h64:∀o∈l,B64 o)(h:Rd w p A (dD l)):
 Calls Tryz.prog 111 #[.agg #[.string s,.slice A n c]] w fun e w'=>e= .returned (.int .i64 (pR s l:Nat))∧Below w.heap.size w w':=by
 have C1:Hid (∀W,Below w.heap.size w W→Calls Tryz.prog 94 #[] W fun e w'=>∃r,e= .returned (.map (some r))∧(∀V,Below w'.heap.size w' V→∀s,(Instr.lookup 195 (.map (some r)) (.string s) false).run Tryz.prog V= .ok (.bool (jI s)) V)∧Below W.heap.size W w'):=fun W hb=>ac8 W (hG.after hb)
 have C2:Hid (∀W,Below w.heap.size w W→Calls Tryz.prog 179 #[.slice A n c,.func (.func 180) #[] #[]] W fun e w'=>e= .returned (.bool (!(l.all aP)))∧Below W.heap.size W w'):=fun W hb=>Wl A l n c W p (hG.after hb) hn hm h64 (h.after hb)
 have HA:Hid (Below w.heap.size w (w.alloc (.cells #[.string s,.slice A n c] 28))):=(zh _ _).alloc (zn _) _;have HK:=zo (Bk.new w 28 [.string s,.slice A n c])
 have HP:Hid (jI s=false∧pR s l=12∨jI s=true∧(decide (3 < n)=true∧pR s l=11∨decide (3 < n)=false∧pR s l=(if l.all aP=false then 2 else 0))):=by
  show _∨_;unfold pR
  cases hk:jI s
  ·exact .inl ⟨rfl,rfl⟩
  ·refine .inr ⟨rfl,?_⟩;rw[hn];by_cases h3:3 < n
   ·exact .inl ⟨zC h3,by simp[h3]⟩
   ·exact .inr ⟨zN h3,by simp[h3]⟩
 clear h hn h64 hG;generalize pR s l=v at HP ⊢;go_enter Tryz.func111,Tryz.ntmps111;go_wp2;have g0:=HK.cell 0 rfl;have Hd:=zo (aL HA.out);generalize w.alloc (.cells #[.string s,.slice A n c] 28)=W0 at HA HK g0 Hd ⊢
 first|(go_region_held3 (fun w'=>w'.cell? ⟨w.heap.size,0,none⟩=some (.string s)) (first|assumption|go_keep) ((go_at_call 94;refine (C1.out _ Hd.out).mono ?_;rintro e w1 ⟨r,rfl,hl,hb⟩;have HB1:=zo (Hd.trans (hb.mono Hd.size));have jq:=zo (HK.drew.after hb);have x0:=jq.cell 0 rfl;have hlk:=hl w1 (zh _ _) s;clear hl hb)))|fail
 all_goals
  clear hlk;have x1:=jq.cell 1 rfl;obtain⟨kb,hkb⟩:∃kb,jI s=kb:=⟨_,rfl⟩;rw[hkb] at HP ⊢;clear hkb;rcases HP.out with⟨rfl,rfl⟩|⟨rfl,⟨h3,rfl⟩|⟨h3,hv⟩⟩
  ·clear HP;go_wp2;go_ret;exact⟨rfl,HB1.out⟩
  ·clear HP;have h3':(3:Int) < (n:Int):=by have:=xu h3;omega
   clear h3;go_wp2;go_ret;exact⟨rfl,HB1.out⟩
  ·clear HP;have h3':¬(3:Int) < (n:Int):=by have:=of_decide_eq_false h3;omega
   have HV:=zo hv;clear h3 hv
   cases hal:l.all aP
   all_goals
    have C2':=C2.out;rw[hal] at C2';have ast:=zo C2';have HAL:=zo hal;clear C2 C2' hal
    go_wp2_with (go_at_call 179;refine (ast.out _ HB1.out).mono ?_;rintro e w2 ⟨rfl,hb⟩;have HB2:=zo (HB1.trans (hb.mono HB1.size));clear hb)
    go_ret;exact⟨iA (by rw[HV.out,HAL.out];rfl),HB2.out⟩
theorem DY {x:List Nat}:∀{l:List (List Nat)},gV x l=true→x∈l
 |[],h=>by cases h
 |y::l,h=>by
  unfold gV at h
  cases hq:gH x y with
  |true=>rw[bJ hq];exact zb
  |false=>
   rw[hq] at h;exact ze _ (DY h)
def kD (o:aG):Nat:=Qx o.1.toNat o.2.1.toNat
def bB:List aG→List Nat
 |[]=>[0,1,2]
 |o::l=>if kD o=5 then [3,5] else if kD o=6 then [4,6] else bB l
def uV (o:aG):Prop:=∃k j:Nat,o.1=(k:Int)∧o.2.1=(j:Int)∧1≤k∧k≤10∧j∈oV k
theorem o5 (l:List aG):bB l=[3,5]∨bB l=[4,6]∨bB l=[0,1,2]:=by
 induction l with
 |nil=>exact .inr (.inr rfl)
 |cons o l ih=>
  unfold bB;split
  ·exact .inl rfl
  ·split
   ·exact .inr (.inl rfl)
   ·exact ih
theorem Af (l:List aG):∀p∈bB l,p≤6:=by
 rcases o5 l with h|h|h<;>rw[h]<;>simp
theorem DC (l:List aG):(bB l).length≤7:=by
 rcases o5 l with h|h|h<;>rw[h]<;>simp
theorem UU (l:List aG):bB l≠[]:=by
 rcases o5 l with h|h|h<;>rw[h]<;>simp
abbrev Nt (l:List Nat):List Value:=l.map fun (x:Nat)=>Value.int .i64 (x:Int)
theorem Ad {L:List aG}{A:Option Addr}{c n:Nat}{l:List Nat}{w w':World}(h:bB L=l)(hn:n=l.length)(hr:Rd w' (fun _=>True) A (Nt l))(hb:Below w.heap.size w w'):∃A' c',Ending.returned (.slice A n c)= .returned (.slice A' (bB L).length c')∧Rd w' (fun _=>True) A' (Nt (bB L))∧Below w.heap.size w w':=⟨A,c,by rw[h,hn],by rw[h];exact hr,hb⟩
theorem UT (s:ByteArray)(A:Option Addr)(l:List aG)(n c:Nat)(w:World)(p:Nat→Prop)(hn:n=l.length)(hm:l.length≤1000)(hv:∀o∈l,uV o)(hG:eT w)(h:Rd w p A (dD l)):
 Calls Tryz.prog 183 #[.agg #[.string s,.slice A n c]] w fun e w'=>∃A' c',e= .returned (.slice A' (bB l).length c')∧Rd w' (fun _=>True) A' (Nt (bB l))∧Below w.heap.size w w':=by
 have C:Hid (∀W (o:aG),o∈l→Below w.heap.size w W→Calls Tryz.prog 249 #[.agg #[.int .i64 o.1,.int .i64 o.2.1,.int .i64 0]] W fun e w'=>e= .returned (.int .i64 (kD o:Nat))∧Below W.heap.size W w'):=fun W o ho hb=>by
  obtain⟨k,j,h1,h2,h3,h4,h5⟩:=hv o ho;have:=Ex.qF h3 h4 h5 W (hG.after hb);unfold kD;rw[h1,h2];exact this
 have H0:Hid (Bk (w.alloc (.cells #[.string s,.slice A n c] 28)) w.heap.size 28 [.string s,.slice A n c]∧Below w.heap.size w (w.alloc (.cells #[.string s,.slice A n c] 28))):=⟨Bk.new w 28 [.string s,.slice A n c],(zh _ _).alloc (zn _) _⟩;have HR:=zo h;have HN:=zo hn;have hni:(n:Int)≤1000:=zy;clear h hn hm hv hG;go_enter Tryz.func183,Tryz.ntmps183;go_wp2;generalize w.alloc (.cells #[.string s,.slice A n c] 28)=W0 at H0 ⊢;have g0:=H0.1.cell 1 rfl;go_wp2
 go_loopw [8] (fun v wr=>∃k:Nat,v= .int .i64 (k:Int)∧k≤n∧Hid (bB (l.drop k)=bB l)∧Hid (Below w.heap.size w wr)) (fun v _=>n - (intOf v).toNat)
 case atStart=>exact⟨0,rfl,zF _,rfl,H0.2⟩
 case round=>
  obtain⟨k,rfl,hk,hr,hw⟩:=hrel;by_cases hlt:k < n
  ·have hk1:k < l.length:=by rw[← HN.out];exact hlt
   obtain⟨o,ho⟩:∃o,l[k]? =some o:=⟨_,zg hk1⟩;obtain⟨q,off,rfl,_,c0,c1,c2⟩:=(HR.after hw.out).o3 ho
   have hd:l.drop k=o::l.drop (k+1):=by
    rw[zK hk1];rw[zg hk1] at ho;rw[zq ho]
   have HX:Hid (bB l=if kD o=5 then [3,5] else if kD o=6 then [4,6] else bB (l.drop (k+1))):=by
    have:=hr.out;rw[hd] at this;show _=_;rw[← this];rfl
   have HA:Hid (Below w.heap.size w (wr.alloc (.cells #[.int .i64 o.1,.int .i64 o.2.1,.int .i64 o.2.2] 174))):=hw.alloc hw.size _;have CO:=zo (C.out (wr.alloc (.cells #[.int .i64 o.1,.int .i64 o.2.1,.int .i64 o.2.2] 174)) o (zD ho) HA.out);clear hd ho C;generalize kD o=t at CO HX;generalize o.1=k0 at c0 c1 c2 HA CO;generalize o.2.1=r0 at c0 c1 c2 HA CO;generalize o.2.2=n0 at c0 c1 c2 HA CO;by_cases h5:t=5
   ·subst h5;have HZ:Hid (bB l=[3,5]):=by rw[Hid,HX.out];rfl
    clear HX
    go_wp2_with (go_at_call 249;refine CO.mono ?_;rintro e w2 ⟨rfl,hb⟩;have HB:=zo (HA.trans (hb.mono HA.size));clear hb)
    go_ret;exact Ad HZ.out rfl (Rd.new w2 #[.int .i64 3,.int .i64 5] 3 trivial) (HB.alloc HB.size _)
   ·have e5:((t:Int) == 5)=false:=by rw[xe];omega
    by_cases h6:t=6
    ·subst h6;have HZ:Hid (bB l=[4,6]):=by rw[Hid,HX.out];rfl
     clear HX h5
     go_wp2_with (go_at_call 249;refine CO.mono ?_;rintro e w2 ⟨rfl,hb⟩;have HB:=zo (HA.trans (hb.mono HA.size));clear hb)
     go_ret;exact Ad HZ.out rfl (Rd.new w2 #[.int .i64 4,.int .i64 6] 3 trivial) (HB.alloc HB.size _)
    ·have e6:((t:Int) == 6)=false:=by rw[xe];omega
     have HZ:Hid (bB (l.drop (k+1))=bB l):=by rw[Hid,HX.out,za h5,za h6]
     clear HX h5 h6
     go_wp2_with (go_at_call 249;refine CO.mono ?_;rintro e w2 ⟨rfl,hb⟩;have HB:=zo (HA.trans (hb.mono HA.size));clear hb)
     go_roundw
     case rel=>exact⟨k+1,by go_num,zy,HZ.out,HB.out⟩
     case measure=>simp[intOf];omega
  ·have HZ:Hid (bB l=[0,1,2]):=by
    have:=hr.out;rw[yL (by have:=HN.out;omega)] at this
    exact this.symm
   go_wp2;go_ret;exact Ad HZ.out rfl (Rd.new wr #[.int .i64 0,.int .i64 1,.int .i64 2] 3 trivial) (hw.alloc hw.size _)
theorem Ud {o:aG}(h:aP o=true):uV o:=by
 obtain⟨k0,r,n⟩:=o
 have hk:∃k:Nat,k0=(k:Int)∧1≤k∧k≤10:=by
  by_cases hb:1≤k0∧k0≤10
  ·exact⟨k0.toNat,zy,zy,zy⟩
  ·exfalso
   have:lC k0=none:=by
    unfold lC;split<;>first|rfl|(exfalso;revert hb;decide)
   unfold aP at h;simp only[this] at h
   cases h
 obtain⟨k,rfl,h1,h2⟩:=hk;have hq:=GY h1 h2 r n;rw[h] at hq;unfold okC at hq
 cases hm:Qg (sZ r) (oV k) with
 |false=>rw[hm] at hq;cases hq
 |true=>
  have hmem:=DZ.1 hm
  have hlt:∀x∈oV k,x < 9:=by
   have hk:k=1∨k=2∨k=3∨k=4∨k=5∨k=6∨k=7∨k=8∨k=9∨k=10:=zy;rcases hk with rfl|rfl|rfl|rfl|rfl|rfl|rfl|rfl|rfl|rfl<;>decide
  have h9:=hlt _ hmem;refine⟨k,sZ r,rfl,?_,h1,h2,hmem⟩;show r=_;unfold sZ at h9 ⊢;split at h9
  ·omega
  ·split at h9
   ·omega
   ·rename_i a b;rw[za a,za b];omega
theorem aa4 {s:ByteArray}{l:List aG}(h:pR s l=0):jI s=true∧l.length≤3∧∀o∈l,aP o=true:=by
 unfold pR at h;split at h
 ·cases h
 ·split at h
  ·cases h
  ·split at h
   ·cases h
   ·rename_i h1 h2 h3;refine⟨by cases hk:jI s<;>simp_all,zy,?_⟩
    have h4:l.all aP=true:=by cases hk:l.all aP<;>simp_all
    exact fun o ho=>zY.1 h4 o ho
def cwM:BP
 |[.str l,.str nm]=>cond (ltB nm) (cond (gH l ais) (some (.bool (qN nm ahb),⟨0,[],[],bE⟩)) (cond (gH l aiu) (some (.bool (qN nm ahd),⟨0,[],[],bE⟩)) (cond (gH l ait) (some (.bool (qN nm ahc),⟨0,[],[],bE⟩)) (cond (gH l nJp) (some (.bool (qN nm wJp),⟨0,[],[],bE⟩)) none)))) none
 |_=>none
theorem aaV:ai Tryz.prog (eH bE 170 cwM):=qz bE _ _ fun args v W hm=>by
 unfold cwM at hm;split at hm
 case h_2=>cases hm
 case h_1 l nm=>
 have key:∀{t:List Nat} {ws:List (List Nat)},rq (rowOf (UB t)) ws=true→(∀l∈ws,∀x∈l,x < 256)→ws.length≤100→ltB nm=true→l=t→some (AV.bool (qN nm ws),(⟨0,[],[],bE⟩:AW))=some (v,W)→(gY [.str l,.str nm]=true∧(∃fn,Tryz.prog.funcs[170]? =some fn∧(fn.name == "runtime.NumGoroutine")=false∧fn.body.isSome=true)∧∀w0 ρ w,aJ w0 ρ ⟨0,[],[],bE⟩ w→Calls Tryz.prog 170 (aH ρ [.str l,.str nm]).toArray w fun e w'=>∃ρ',e= .returned (cv ρ' v)∧Post w0 ρ ⟨0,[],[],bE⟩ w ρ' W w'∧v.ok W.nx):=fun {t ws} h1 h2 h3 hb e hq=>by
  subst e;obtain⟨rfl,rfl⟩:=zm (zq hq);refine⟨rfl,⟨_,Tryz.func170,zx,zz⟩,fun w0 ρ w hW=>?_⟩
  have hG:eT w:=eT.after (fun g l hg j v hj=>hW.gl g l hg j v hj) hW.below
  refine (acr h1 h2 h3 (fun x hx=>aK (bM (f:=fun x=>Nat.blt x 256) hb hx)) hG w (zh _ _)).mono ?_
  rintro e w' ⟨rfl,hb⟩;exact⟨ρ,rfl,hW.quiet ⟨hb.os,hb.tape,hb.output,hb.size,fun i hi _=>hb.block i hi⟩,trivial⟩
 cases hb:ltB nm with
 |false=>rw[hb] at hm;cases hm
 |true=>
 rw[hb] at hm
 cases h1:gH l ais with
 |true=>rw[h1] at hm;exact key aeL zx zx hb (bJ h1) hm
 |false=>
 cases h2:gH l aiu with
 |true=>rw[h1,h2] at hm;exact key aeN zx zx hb (bJ h2) hm
 |false=>
 cases h3:gH l ait with
 |true=>rw[h1,h2,h3] at hm;exact key aeM zx zx hb (bJ h3) hm
 |false=>
 cases h4:gH l nJp with
 |true=>rw[h1,h2,h3,h4] at hm;exact key ajc zx zx hb (bJ h4) hm
 |false=>rw[h1,h2,h3,h4] at hm;cases hm
def KE (ν:Nat→Int):Nat→WH→List AV
 |_,[]=>[]
 |i,x::l=>.int .i64 (.ofNat x.1):: .int .i64 (.ofNat x.2.1)::cond (Nat.beq x.1 6) (.sym [(.ofNat 0,.ofNat 9223372036854775807,true)] (ν i)) (.raw (.int .i64 (ν i)))::KE ν (i+1) l
def afg (ν:Nat→Int)(nm:List Nat)(l:WH)(z:Bool):AW:=⟨2,(1,.cells [.str nm,cond z .bT (.slice 0 0 0 l.length none)] 207 none)::cond z [] [(0,.cells (KE ν 0 l) 174 (some 3))],[],bE⟩
noncomputable def stB (ν:Nat→Int)(x:Ri)(z:Bool)(f:Nat):Bool:=match dx (eH bE 170 cwM) f [.ptr 1 0] (afg ν x.1 x.2.1 z) with
 |some (.tuple [],⟨_,_,[],_⟩)=>true
 |_=>false
def stF:List Nat:=[103,104,105]
noncomputable def aff (ν:Nat→Int)(x:Ri):Bool:=kV (stB ν x false) stF && (match x.2.1 with
 |[]=>kV (stB ν x true) stF
 |_=>true)
def Wx (k r k' r':Nat):Bool:=(Nat.beq k k' && Nat.beq r r') || ((Nat.beq k 4 && (Nat.beq k' 5 && Nat.beq r r')) || (Nat.ble r' 8 && ((Nat.beq k' 1 || (Nat.beq k' 2 || (Nat.beq k' 3 || (Nat.beq k' 8 || Nat.beq k' 9)))) && (!(Nat.beq k 4) && (!(gH (ky k r) []) && gH (ky k r) (ky k' r'))))))
def all2:WH→List aG→Bool
 |[],[]=>true
 |x::l,o::m=>Wx x.1 x.2.1 o.1.toNat o.2.1.toNat && all2 l m
 |_,_=>false
def inT (nm:List Nat)(l:List aG):Bool:=lT.any fun x=>gH x.1 nm && all2 x.2.1 l
def univ:List (Nat×Nat):=[1,2,3,8,9].flatMap fun k=>[0,1,2,3,4,5,6,7,8].map fun r=>(k,r)
def abz (k r:Nat):List (Nat×Nat):=(k,r)::cond (Nat.beq k 4) [(5,r)] (univ.filter fun y=>Wx k r y.1 y.2)
def abA:WH→List WH
 |[]=>[[]]
 |x::l=>(abA l).flatMap fun m=>(abz x.1 x.2.1).map fun y=>(y.1,y.2,false)::m
noncomputable def QQ (ν:Nat→Int)(x:Ri):Bool:=(abA x.2.1).all fun l=>aff ν (x.1,l,0)
