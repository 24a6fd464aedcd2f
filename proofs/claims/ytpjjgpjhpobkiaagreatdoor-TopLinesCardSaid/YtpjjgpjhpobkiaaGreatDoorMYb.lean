/- Parts of the proof of TopLines. -/
import Derived.Test.YtpjjgpjhpobkiaaGreatDoorMK15
set_option maxHeartbeats 8000000
set_option maxRecDepth 100000
namespace Go.Proofs.YtpjjgpjhpobkiaaGreatDoor
section
open Go.RowKit Go.Shelf Ex
attribute [local go_sem] wZ
def ab5 (ats:Array TypeId)(ty:TypeId)(args:Array Value):Sem Value:=Builtin.append_ ats ty args
theorem Q9 (ats:Array TypeId)(ty:TypeId)(args:Array Value):Builtin.append_ ats ty args=ab5 ats ty args:=rfl
attribute [local go_sem ↓] Q9
theorem N9:El Tryz.prog 24 30 (.agg #[.int .i64 0,.slice none 0 0,.string ⟨#[]⟩,.slice none 0 0,.bool false]) 5 80:=⟨Tryz.underlying24,zz,rfl,zx⟩
def ItP (p:Nat→Prop)(w:World)(x:jY):Prop:=Rd w p x.2.1 (bs x.1.2.1)∧Rd w p x.2.2.2.1 (dD x.1.2.2.2.1)
def iF (xs:List jY):List Value:=xs.flatMap jX
theorem amz (xs:List jY):(iF xs).length=xs.length * 5:=by
 unfold iF
 induction xs with
 |nil=>rfl
 |cons x xs ih=>rw[yM,zL,ih,yw];simp only[List.length_cons,List.length_nil];omega
structure AsW (w W:World)(b:Nat)(v:Value)(xs:List jY):Prop where
 box:Bk W b 24 [v]
 own:W.ownsRow (b+1) 30 5 v xs.length (iF xs)
 its:∀x∈xs,ItP (fun i=>b < i∧some i≠v.ownBlock) W x
 bl:Below b w W
section
variable {w W W':World} {b:Nat} {v:Value} {xs:List jY} {row:Option Nat}
theorem MG {base n size:Nat}{e:TypeId}{u:Value}{us:List Value}(h:W.ownsRow base e size u n us)(hg:W.grownBy W' row)(hr:∀r,row=some r→∃o:Obj,W.heap[r]? =some o∧o.isCells=false):W'.ownsRow base e size u n us:=by
 refine⟨h.1,h.2.imp id ?_⟩;rintro ⟨g,cap,cur,rfl,p2,p3,p4⟩;refine⟨g,cap,cur,rfl,p2,(hg.block g (lt_of_heap p3) fun e=>?_).trans p3,p4⟩
 obtain⟨o,ho,hc⟩:=hr g e.symm;rw[p3] at ho;obtain rfl:=zq ho
 cases hc
theorem AsW.keep (h:AsW w W b v xs)(hg:W.grownBy W' row)(hr:∀r,row=some r→b < r∧∃o:Obj,W.heap[r]? =some o∧o.isCells=false):AsW w W' b v xs:=
 ⟨iE h.box hg fun r e=>(hr r e).2,MG h.own hg fun r e=>(hr r e).2,fun x hx=>⟨nD (h.its x hx).1 hg fun r e=>(hr r e).2,nD (h.its x hx).2 hg fun r e=>(hr r e).2⟩,h.bl.grown hg (xE h.box.lt) fun k e=>xE (hr k e).1⟩
end
def AsX (b:Nat)(x:jY)(W:World)(Bx:Nat):Prop:=∃m v,Bk W Bx 30 (jX x)∧Lr m W x∧b < m∧Bk W b 24 [v]∧∀k,v.ownBlock=some k→k < m
theorem dR {w:World}{k:Nat}{o:Obj}(h:w.heap[k]? =some o):k < w.heap.size:=(zT.1 h).1
def KpO (b:Nat)(W W':World):Prop:=W.heap.size≤W'.heap.size∧∀i,i < b→W'.heap[i]? =W.heap[i]?
theorem KpO.trans {b:Nat}{X Y Z:World}(h:KpO b X Y)(k:KpO b Y Z):KpO b X Z:=⟨zV h.1 k.1,fun i hi=>(k.2 i hi).trans (h.2 i hi)⟩
theorem Ct {W:World}{k:Nat}{o:Obj}{cur:Array Value}{T:TypeId}{f:Nat×Nat}{g:Nat}(h:W.heap[k]? =some o)(ho:o.isCells=false)(hg:W.heap[g]? =some (.cells cur T f)):k≠g:=fun e=>by
 rw[e,hg] at h;obtain rfl:=zq h
 cases ho
theorem afr {w W W5:World}{b m N0:Nat}{v v2:Value}{pre:List jY}{x:jY}{O:Obj}(hi:AsW w W b v pre)(hE:Lr m W x)(_hbm:b < m)(hlt:∀k,v.ownBlock=some k→k < m)
 (hown:W5.ownsRow (b+1) 30 5 v2 (pre.length+1) (iF pre++jX x)) (hg:(W.alloc O).grownBy W5 v.ownBlock) (hat:v2.ownBlock=v.ownBlock∨v2.ownBlock=some (W.alloc O).heap.size) (ai3:Bk W5 b 24 [v]) (_hN:N0=b+1):
 KeepsFrom N0 W (W5.setCell ⟨b,0,none⟩ v2)∧KpO b W (W5.setCell ⟨b,0,none⟩ v2)∧∃v,AsW w (W5.setCell ⟨b,0,none⟩ v2) b v (pre++[x]):=by
 have hsz:W.heap.size≤W5.heap.size:=zV zw hg.size;have hbl:=hi.box.lt
 have key:∀i,i < W.heap.size→some i≠v.ownBlock→i≠b→(W5.setCell ⟨b,0,none⟩ v2).heap[i]? =W.heap[i]? ∧some i≠v2.ownBlock:=fun i h1 h2 h3=>by
  refine⟨(zG W5 ⟨b,0,none⟩ v2 i h3).trans ((hg.block i zu h2).trans (wT W O i h1)),fun e=>?_⟩
  rcases hat with h|h
  ·exact h2 (e.trans h)
  ·rw[h] at e;have:=zq e;simp at this;omega
 refine⟨⟨by simpa using hsz,fun k o _ hk ho=>?_⟩,⟨by simpa using hsz,fun i h1=>(key i zy (fun e=>by have:=(hi.own.lt i e.symm).1;omega) zy).1⟩,v2,ai3.set 0 v2,?_,fun y hy=>?_,?_⟩
 ·refine (key k (dR hk) (fun e=>?_) (Ct hk ho (show W.heap[b]? =_ from hi.box))).1.trans hk
  rcases hi.own.2 with⟨h1,_⟩|⟨g,cap,cur,h1,_,h3,_⟩
  ·rw[h1] at e
   cases e
  ·rw[h1] at e;obtain rfl:k=g:=zq e;exact Ct hk ho h3 rfl
 ·have h1:iF (pre++[x])=iF pre++jX x:=by simp[iF]
  rw[h1,zL]
  exact tN hown fun k e=>zG W5 ⟨b,0,none⟩ v2 k fun e2=>by
   have:=(hown.lt k e).1;have h3:k=b:=e2;omega
 ·rcases zA.1 hy with hy|hy
  ·have mv:∀i,i < W.heap.size→(b < i∧some i≠v.ownBlock)→(b < i∧some i≠v2.ownBlock)∧(W5.setCell ⟨b,0,none⟩ v2).heap[i]? =W.heap[i]?:=fun i h1 h2=>⟨⟨h2.1,(key i h1 h2.2 zy).2⟩,(key i h1 h2.2 zy).1⟩
   exact⟨(hi.its y hy).1.move mv,(hi.its y hy).2.move mv⟩
  ·obtain rfl:y=x:=by simpa using hy
   have mv:∀i,i < W.heap.size→m≤i→(b < i∧some i≠v2.ownBlock)∧(W5.setCell ⟨b,0,none⟩ v2).heap[i]? =W.heap[i]?:=fun i h1 h2=>by
    have h3:some i≠v.ownBlock:=fun e=>by have:=hlt i e.symm;omega
    exact⟨⟨zy,(key i h1 h3 zy).2⟩,(key i h1 h3 zy).1⟩
   exact⟨hE.1.move mv,hE.2.move mv⟩
 ·have hb1:Below b w (W.alloc O):=hi.bl.alloc (xE hbl) O;exact (hb1.grown hg zu fun k e=>by have:=(hi.own.lt k e).1;omega).setCell (zn _) v2
def asA (b B:Nat)(x:Value)(Bx:Nat):Act:={ tmps:=#[.slice none 0 0,.func (.func 254) #[] #[.pointer (some ⟨B,0,none⟩)],.pointer (some ⟨b,0,none⟩),undef,.slice none 0 0,.pointer (some ⟨Bx,0,none⟩),.func (.func 254) #[] #[.pointer (some ⟨B,0,none⟩)],x,undef,undef,undef,undef,undef],defers:=[]}
theorem Q8 {B c:Nat}{q:Nat→Prop}{A:Option Addr}{l:List UInt8}(hm:l.length≤1000)(hc:l.length≤c)(w:World)(h:og B q A c l w)(hq:∀i,q i→i < w.heap.size):
 Calls Tryz.prog 253 #[.slice none 0 0,.func (.func 254) #[] #[.pointer (some ⟨B,0,none⟩)]] w fun e w'=>∃v xs,e= .returned v∧xs.map (·.1)=items l∧AsW w w' w.heap.size v xs:=by
 refine (ym (n:=3)).1 ?_;refine callsIn_of_wp_marks Tryz.func253 rfl trivial ?_ rfl;simp only[Tryz.ntmps253,List.size_toArray,List.length_cons,List.length_nil,Nat.reduceAdd,Nat.reduceSub,Array.replicate_succ,Array.replicate_zero,List.push_toArray,List.append_toArray,List.nil_append,List.cons_append];have hmx:Tryz.prog.follows .mixedOrders=true:=by kernel_rfl
 gi_wp2;have hb0:Below w.heap.size w (w.alloc (.cells #[.slice none 0 0] 24)):=(zh _ _).alloc (zn _) _;have hk0:Bk (w.alloc (.cells #[.slice none 0 0] 24)) w.heap.size 24 [.slice none 0 0]:=Bk.new w _ _;have hs0:(w.alloc (.cells #[.slice none 0 0] 24)).heap.size=w.heap.size+1:=zU _ _;have hE:=h.after hb0;have HE0:=zo h;obtain⟨b,hb⟩:∃b,w.heap.size=b:=⟨_,rfl⟩;rw[hb] at hb0 hk0 hs0 ⊢;generalize w.alloc (.cells #[.slice none 0 0] 24)=W0 at hb0 hk0 hs0 hE ⊢
 have hKI:∀W W',KpO b W W'→og B q A c l W→og B q A c l W':=fun W W' hk he=>by
  have h0:=HE0.out;refine⟨fun g l' hg j v hj=>?_,he.2.1.keep fun i _ hi=>hk.2 i (by have:=hq i hi;omega),(hk.2 B (by have:=h0.2.2.lt;omega)).trans he.2.2⟩
  rw[yz (w:=W) (hk.2 g (by have h1:g < w.heap.size:=lt_of_cell (h0.1 g l' hg j v hj);omega))]
  exact he.1 g l' hg j v hj
 refine Jq (F:=Fence.wide) (n:=3) rfl zy (gf:=254) (lb:=#[.pointer (some ⟨B,0,none⟩)]) rfl trivial (enters_of Tryz.func254 zz rfl)
  (aaN (n:=3 - 1) zy hm hc (KpO b) hKI (fun _ _ h=>h.1) W0 hE) (fun h k=>KpO.trans h k) (fun W l o o' hl _ _ _=>⟨zw,fun i hi=>World.putObj_heap_other zy⟩) (fun _=>rfl)
  (fun pre W=>∃v,AsW w W b v pre)
  (fun _ _ _=>False)
  (fun s W W' row ⟨v,h⟩ hg hr=>⟨v,h.keep hg fun r e=>⟨by have:=(hr r e).1;omega,(hr r e).2⟩⟩)
  (fun _ _ _ _ _ hs _ _=>hs)
  ⟨_,hk0,yx _ _ _ _,fun x hx=>(by cases hx),hb0⟩
  (fun x a' W=>∃Bx,AsX b x W Bx∧a'=asA b B (.agg (jX x).toArray) Bx)
  (fun x a' s W W' row ⟨Bx,⟨m,v,h1,h2,h3,h4,h5⟩,h6⟩ hg hr=>⟨Bx,⟨m,v,iE h1 hg fun r e=>(hr r e).2,⟨nD h2.1 hg fun r e=>(hr r e).2,nD h2.2 hg fun r e=>(hr r e).2⟩,h3,iE h4 hg fun r e=>(hr r e).2,h5⟩,h6⟩)
  ?assign ?body ?done ?stop
 case assign=>
  rintro l' pre x Wr W K _ ⟨v,hi⟩ hbb hE hK;have hi':AsW w W b v pre:=hi.keep (grownBy_below hbb none) fun r e=>by cases e
  have ha:=(zh W.heap.size W).alloc (zn _) (.cells (jX x).toArray 30);have hsz:=hbb.size;have hbl:=hi.box.lt;have hk:=hK (asA b B (.agg (jX x).toArray) W.heap.size) (W.alloc (.cells (jX x).toArray 30)) ⟨ha.size,fun k o _ hk _=>(ha.block k (dR hk)).trans hk⟩ ⟨ha.size,fun i hi=>ha.block i zy⟩ ⟨v,hi'.keep (grownBy_below ha none) fun r e=>by cases e⟩ ⟨W.heap.size,⟨Wr.heap.size,v,Bk.new W _ _,hE.after ha,hbl,hi'.box.after ha,fun k e=>(hi.own.lt k e).2⟩,rfl⟩
  clear hK hi hi' hE ha hbb;obtain⟨⟨k1,raw,nm,ops,al⟩,A1,c1,A2,c2⟩:=x;unfold asA at hk;dsimp only[jX] at hk ⊢;gi_wp2;exact hk
 case body=>
  rintro l' pre x a' W hsp ⟨v,hi⟩ ⟨Bx,⟨m,v',hx,hE,hbm,hv,hlt⟩,rfl⟩
  obtain rfl:v=v':=by
   have h1:=hi.box.cell 0 rfl;rw[hv.cell 0 rfl] at h1;exact (zq h1).symm
  obtain⟨A0,c0,hvf,hc0,_⟩:=bg hi.own;have HI:=zo hi;have HX:=zo (zM hE (zM hbm hlt));obtain⟨⟨k1,raw,nm,ops,al⟩,A1,c1,A2,c2⟩:=x;unfold asA;dsimp only[jX] at hx ⊢;have x0:=hx.cell 0 rfl;have x1:=hx.cell 1 rfl;have x2:=hx.cell 2 rfl;have x3:=hx.cell 3 rfl;have x4:=hx.cell 4 rfl;have z0:=hi.box.cell 0 rfl;clear hi hE hbm hlt hv hx;have hal:=(zh W.heap.size W).alloc (zn _) (.cells #[.int .i64 (k1:Int),.slice A1 raw.length c1,.string (ag nm),.slice A2 ops.length c2,.bool al] 30);have hsp1:pre.length+1≤1000:=by simpa using hsp
  obtain⟨v2,W5,hrun,hown,hg,hat,_⟩:=sQ N9 (W.alloc (.cells #[.int .i64 (k1:Int),.slice A1 raw.length c1,.string (ag nm),.slice A2 ops.length c2,.bool al] 30)) (b+1) 24 v _ (iF pre) (HI.keep (grownBy_below hal none) fun r e=>by cases e).own (fun _=>True) (some ⟨W.heap.size,0,none⟩) 1 1 [.int .i64 (k1:Int),.slice A1 raw.length c1,.string (ag nm),.slice A2 ops.length c2,.bool al] rfl (Rd.new W _ _ trivial) (by simp[Value.oneCell']) (by simp only[maxLen];omega) zy (by have:=HI.box.lt;simp;omega)
  subst hvf;have hrun:(ab5 #[24,24] 24 #[.slice A0 pre.length c0,.slice (some ⟨W.heap.size,0,none⟩) 1 1]).run Tryz.prog (W.alloc (.cells #[.int .i64 (k1:Int),.slice A1 raw.length c1,.string (ag nm),.slice A2 ops.length c2,.bool al] 30))= .ok v2 W5:=hrun;have SQ:Bk W5 b 24 [.slice A0 pre.length c0]:=(hg.block b (by have:=HI.box.lt;simp;omega) fun e=>by have:=(HI.own.lt b e.symm).1;omega).trans (HI.box.after hal)
  have f0:=SQ.frozen 0;have z5:=SQ.cell 0 rfl;obtain⟨A5,c5,hv5,_⟩:=bg hown;have HW5:=zo (zM hown (zM hg (zM hat SQ)));subst hv5;clear hown hg hat SQ hal;gi_wp2;exact afr HI.out HX.1 HX.2.1 HX.2.2 HW5.1 HW5.2.1 HW5.2.2.1 HW5.2.2.2 hs0
 case done=>
  rintro D ys W hD hys ⟨v,hi⟩ hK;have z0:=hi.box.cell 0 rfl;have HI:=zo (hi.keep (grownBy_putObj' W D (.deferred none)) fun r e=>by cases e;exact⟨zy,_,hK,rfl⟩)
  clear hi;gi_wp2;refine⟨zw,.inl ⟨_,_,rfl,run_takeDeferred hK,?_⟩⟩;exact⟨_,results_tmp rfl _ _ _,v,ys,rfl,hys,by rw[hb];exact HI.out⟩
 case stop=>
  rintro D cc pre W _ _ h _;exact h.elim
def Rl (l:List UInt8)(w:World)(e:Ending)(w':World):Prop:=∃v xs,e= .returned v∧xs.map (·.1)=items l∧w'.ownsRow w.heap.size 30 5 v xs.length (iF xs)∧(∀x∈xs,ItP (fun i=>w.heap.size≤i∧some i≠v.ownBlock) w' x)∧Below w.heap.size w w'
theorem VA {A:Option Addr}{c:Nat}{l:List UInt8}(hm:l.length≤1000)(hc:l.length≤c)(w:World)(hG:eT w)(q:Nat→Prop)(hr:Rd w q A (bs l)):
 Calls Tryz.prog 123 #[.slice A l.length c] w fun e w'=>Rl l w e w':=by
 have h0:og w.heap.size (fun i=>i < w.heap.size) A c l (w.alloc (.cells #[.slice A l.length c] 22)):=⟨hG.after ((zh _ _).alloc (zn _) _),(hr.mono fun i hi _=>hi).after ((zh _ _).alloc (zn _) _),Bk.new w _ _⟩
 have hb0:=(zh w.heap.size w).alloc (zn _) (.cells #[.slice A l.length c] 22)
 have CC:Hid (Calls Tryz.prog 192 #[.func (.func 254) #[] #[.pointer (some ⟨w.heap.size,0,none⟩)]] (w.alloc (.cells #[.slice A l.length c] 22)) fun e w'=>Rl l w e w'):=by
  have CA:=zo (Q8 hm hc _ h0 fun i hi=>by have:=zU w (.cells #[.slice A l.length c] 22);omega)
  go_enter Tryz.func192,Tryz.ntmps192
  go_wp2_with (go_at_call 253;refine CA.mono ?_;rintro e w1 ⟨v,xs,rfl,hx,hi⟩;have HI:=zo (zM hx hi);clear hx hi)
  have hsz:=zU w (.cells #[.slice A l.length c] 22)
  have hF:Rl l w (.returned v) w1:=by
   refine⟨v,xs,rfl,HI.1,own_base' HI.2.own zy,fun x hx=>⟨(HI.2.its x hx).1.mono fun i _ h=>⟨zy,h.2⟩,(HI.2.its x hx).2.mono fun i _ h=>⟨zy,h.2⟩⟩,hb0.trans (HI.2.bl.mono zy)⟩
  have HF:=zo hF;clear HI hF hsz;go_ret;exact HF.out
 clear h0 hb0;go_enter Tryz.func123,Tryz.ntmps123
 go_wp2_with (first
  |(go_at_call 193;refine (aaO A l.length c w).mono ?_;rintro e w1 ⟨rfl,rfl⟩)
  |(go_at_call 192;refine CC.mono ?_;rintro e w2 ⟨v,xs,rfl,h1,h2,h3,h4⟩;have HF:=zo (show Rl l w (.returned v) w2 from⟨v,xs,rfl,h1,h2,h3,h4⟩);clear h1 h2 h3 h4))
 go_ret;exact HF.out
end
section
open Go.RowKit Go.Shelf Ex
def Po (p:Nat)(ex:List Nat):Nat:=(match p with|0=>1|5=>3|6=>3|_=>2)+oG ex
noncomputable def szR (p:Nat)(o n c:Nat)(s:ByteArray)(A:Option Addr)(al:Bool)(ex:List Nat):Option Nat:=Aq (dx OV 35 [.agg [.int .i64 (.ofNat p),.raw (.int .u8 (o:Int)),.raw (.string s),.raw (.slice A n c),.str ex,.raw (.bool al)]] ⟨0,[],[],bE⟩)
theorem ahn (o n c:Nat)(s:ByteArray)(A:Option Addr)(al:Bool):kV (fun p=>Wy (fun ex=>nq (szR p o n c s A al ex) (Po p ex)) jQ) [0,1,2,3,4,5,6]=true:=by kernel_rfl
theorem UC {p:Nat}{ex:List Nat}(_hp:p≤6)(hx:gV ex jQ=true)(o n c:Nat)(s:ByteArray)(A:Option Addr)(al:Bool)(w:World)(hG:eT w):
 Calls Tryz.prog 35 #[.agg #[.int .i64 (p:Int),.int .u8 (o:Int),.string s,.slice A n c,.string (ag ex),.bool al]] w fun e w'=>e= .returned (.int .i64 (Po p ex:Nat))∧Below w.heap.size w w':=by
 have h:=YO (Fh (f:=fun ex=>nq (szR p o n c s A al ex) (Po p ex)) (bM (f:=fun p=>Wy (fun ex=>nq (szR p o n c s A al ex) (Po p ex)) jQ) (ahn o n c s A al) zu) hx)
 exact Oq (args:=[.agg [.int .i64 (.ofNat p),.raw (.int .u8 (o:Int)),.raw (.string s),.raw (.slice A n c),.str ex,.raw (.bool al)]]) (aT fB nR) h ⟨⟨trivial,trivial,trivial,trivial,trivial,trivial,trivial⟩,trivial⟩ w hG
def rfO (ex:List Nat)(l:List aG)(dv nv:Int)(k:Nat)(o:aG):aG:=if bP ex l k=0 then o else if bP ex l k=100 then (o.1,o.2.1,dv) else (o.1,o.2.1,nv)
def Dv (ex:List Nat)(l:List aG)(dv nv:Int):Nat→List aG
 |0=>[]
 |k+1=>Dv ex l dv nv k++(match l[k]? with|some o=>[rfO ex l dv nv k o]|none=>[])
theorem sV (ex:List Nat)(l:List aG)(dv nv:Int):∀k,k≤l.length→(Dv ex l dv nv k).length=k
 |0,_=>rfl
 |k+1,h=>by
  have e:l[k]? =some l[k]:=zg zy;simp only[Dv,e,List.length_append,sV ex l dv nv k zy,List.length_cons,List.length_nil]
def uD (ex:List Nat)(l:List aG)(z:Int)(d:Bool):Nat→Bool
 |0=>z == 0
 |k+1=>uD ex l z d k || (if d then bP ex l k == 100 else (bP ex l k != 0 && bP ex l k != 100))
structure Bf (w W:World)(pg o:Value)(s:ByteArray)(A:Option Addr)(n c:Nat)(ex:List Nat)(al v:Value)(L:List aG):Prop where
 e:Bk W w.heap.size 95 [pg,o,.string s,.slice A n c,.string (ag ex),al]
 r:Bk W (w.heap.size+1) 28 [.string ⟨#[]⟩,.slice none 0 0]
 i:Bk W (w.heap.size+1+1) 28 [.string s,v]
 own:W.ownsRow (w.heap.size+1+1+1) 174 3 v L.length (dD L)
 bl:Below w.heap.size w W
theorem Bf.after {w W W':World}{pg o:Value}{s:ByteArray}{A:Option Addr}{n c:Nat}{ex:List Nat}{al v:Value}{L:List aG}(h:Bf w W pg o s A n c ex al v L)(hb:Below W.heap.size W W'):Bf w W' pg o s A n c ex al v L:=
 ⟨h.e.after hb,h.r.after hb,h.i.after hb,own_below h.own hb (zn _),h.bl.trans (hb.mono h.bl.size)⟩
theorem Bf.step {w W W' W4:World}{pg o:Value}{s:ByteArray}{A:Option Addr}{n c:Nat}{ex:List Nat}{al v v2:Value}{L L2:List aG}(h:Bf w W pg o s A n c ex al v L)(hb:Below W.heap.size W W')
 (hown:W4.ownsRow (w.heap.size+1+1+1) 174 3 v2 L2.length (dD L2)) (hg:W'.grownBy W4 v.ownBlock):Bf w (W4.setCell ⟨w.heap.size+1+1,1,none⟩ v2) pg o s A n c ex al v2 L2:=by
 have h':=h.after hb
 have ne:∀i,i≤w.heap.size+1+1→some i≠v.ownBlock:=fun i hi e=>by
  have:=(h.own.lt i e.symm).1;omega
 have e4:=(hg.block _ h'.e.lt (ne _ zy)).trans h'.e;have r4:=(hg.block _ h'.r.lt (ne _ zy)).trans h'.r;have i4:=(hg.block _ h'.i.lt (ne _ zy)).trans h'.i
 exact⟨Bk.other (p:=⟨w.heap.size+1+1,1,none⟩) e4 (by show w.heap.size≠w.heap.size+1+1;omega) _,Bk.other (p:=⟨w.heap.size+1+1,1,none⟩) r4 (by show w.heap.size+1≠w.heap.size+1+1;omega) _,Bk.set i4 1 _,
  tN hown fun k e=>zG W4 ⟨w.heap.size+1+1,1,none⟩ v2 k fun e2=>by
   have:=(hown.lt k e).1;have h3:k=w.heap.size+1+1:=e2;omega,(h'.bl.grown hg h'.bl.size fun k e=>by have:=(h.own.lt k e).1;omega).setCell (by show w.heap.size≤w.heap.size+1+1;omega) _⟩
theorem Bf.kept {w W W' W4:World}{pg o:Value}{s:ByteArray}{A:Option Addr}{n c:Nat}{ex:List Nat}{al v:Value}{L:List aG}(h:Bf w W pg o s A n c ex al v L)(hb:Below W.heap.size W W')(hg:W'.grownBy W4 v.ownBlock):Bk W4 (w.heap.size+1+1) 28 [.string s,v]:=by
 have h':=h.after hb;exact (hg.block _ h'.i.lt fun e=>by have:=(h.own.lt _ e.symm).1;omega).trans h'.i
theorem Bf.more {w W W' W4:World}{pg o:Value}{s:ByteArray}{A:Option Addr}{n c:Nat}{ex:List Nat}{al v v2:Value}{L L2:List aG}{x:aG}{k:Nat}(h:Bf w W pg o s A n c ex al v L)(hb:Below W.heap.size W W')(hk:L.length=k)(hL:L2=L++[x])
 (hown:W4.ownsRow (w.heap.size+1+1+1) 174 3 v2 (k+1) (dD L++Ll x)) (hg:W'.grownBy W4 v.ownBlock):Bf w (W4.setCell ⟨w.heap.size+1+1,1,none⟩ v2) pg o s A n c ex al v2 L2:=by
 refine h.step hb ?_ hg;rw[hL,zL,hk];have e:dD (L++[x])=dD L++Ll x:=by simp[dD]
 rw[e];exact hown
def RfP (w:World)(s:ByteArray)(L:List aG)(e:Ending)(w':World):Prop:=∃A' c',e= .returned (.tuple #[.agg #[.string s,.slice A' L.length c'],.bool true])∧Rd w' (fun i=>w.heap.size≤i) A' (dD L)∧Below w.heap.size w w'
theorem UH (pg o:Value)(s:ByteArray)(ex:List Nat)(al:Value)(A:Option Addr)(l:List aG)(n c:Nat)(dv nv:Int)(w:World)(p:Nat→Prop)(hx:gV ex jQ=true)(hn:n=l.length)(hm:l.length≤1000)(h:Rd w p A (dD l))(hG:∀W,Below w.heap.size w W→eT W)
 (_h1:pg.oneCell'=true∧o.oneCell'=true∧al.oneCell'=true)
 (hd:∀k,bP ex l k=100→qO (gJ 100).1 (gJ 100).2 dv=true) (hv:∀k,bP ex l k≠0→bP ex l k≠100→qO (gJ (bP ex l k)).1 (gJ (bP ex l k)).2 nv=true) (hud:uD ex l dv true n=true) (hun:uD ex l nv false n=true):
 Calls Tryz.prog 37 #[.agg #[pg,o,.string s,.slice A n c,.string (ag ex),al],.int .i64 dv,.int .i64 nv] w (RfP w s (Dv ex l dv nv n)):=by
 have CL:Hid (∀(k:Nat) W,k < n→Below w.heap.size w W→Calls Tryz.prog 81 #[.agg #[pg,o,.string s,.slice A n c,.string (ag ex),al],.int .i64 (k:Int)] W fun e w'=>e= .returned (.int .u8 (bP ex l k))∧Below W.heap.size W w'):=fun k W hk hb=>Qn pg o s ex al A l n c k W p hx hn hm hk (h.after hb) fun V hV=>hG V (hb.trans (hV.mono hb.size))
 have CW:Hid (∀(t:Nat) (z:Int) W,t∈aX→qO (gJ t).1 (gJ t).2 z=true→Below w.heap.size w W→Calls Tryz.prog 82 #[.int .u8 (t:Int),.int .i64 z] W fun e w'=>e= .returned (.bool true)∧Below W.heap.size W w'):=fun t z W ht hz hb=>by
  have hr:loI≤z∧z≤hiI:=by
   have h2:(gJ t).1≤z∧z≤(gJ t).2:=by simpa [qO] using hz
   have h3: -128≤(gJ t).1∧(gJ t).2≤65535:=by
    simp only[aX,List.mem_cons,List.not_mem_nil,or_false] at ht;rcases ht with rfl|rfl|rfl|rfl<;>decide
   have q1:loI= -9223372036854775808:=rfl;have q2:hiI=9223372036854775807:=rfl;rw[q1,q2];omega
  have:=Xb ht hr W (hG W hb);rwa [hz] at this
 have HN:=zo hn;have HR:=zo h;have HD:=zo hd;have HV:=zo hv;have HU:=zo (zM hud hun);have hni:(n:Int)≤1000:=zy;clear hx hn hm h hG hd hv hud hun;go_enter Tryz.func37,Tryz.ntmps37;go_wp2
 have HF0:Hid (Bf w (((w.alloc (.cells #[pg,o,.string s,.slice A n c,.string (ag ex),al] 95)).alloc (.cells #[.string ⟨#[]⟩,.slice none 0 0] 28)).alloc (.cells #[.string s,.slice none 0 0] 28)) pg o s A n c ex al (.slice none 0 0) []):=
  ⟨((Bk.new w _ _).alloc _).alloc _,by have:=(Bk.new (w.alloc (.cells #[pg,o,.string s,.slice A n c,.string (ag ex),al] 95)) 28 [.string ⟨#[]⟩,.slice none 0 0]).alloc (.cells #[.string s,.slice none 0 0] 28);rwa [zU] at this,
    by have:=Bk.new ((w.alloc (.cells #[pg,o,.string s,.slice A n c,.string (ag ex),al] 95)).alloc (.cells #[.string ⟨#[]⟩,.slice none 0 0] 28)) 28 [.string s,.slice none 0 0];rwa [zU,zU] at this,
    yx _ _ _ _,(((zh _ _).alloc (zn _) _).alloc zw _).alloc zu _⟩
 generalize ((w.alloc (.cells #[pg,o,.string s,.slice A n c,.string (ag ex),al] 95)).alloc (.cells #[.string ⟨#[]⟩,.slice none 0 0] 28)).alloc (.cells #[.string s,.slice none 0 0] 28)=W0 at HF0 ⊢
 go_loopw [9,10,11,12,13] (fun u1 u2 v _ _ wr=>∃(k:Nat) (A':Option Addr) (c':Nat),v= .int .i64 (k:Int)∧k≤n∧u1= .bool (uD ex l dv true k)∧u2= .bool (uD ex l nv false k)∧Hid (Bf w wr pg o s A n c ex al (.slice A' k c') (Dv ex l dv nv k))) (fun _ _ v _ _ _=>n - (intOf v).toNat)
 case atStart=>exact⟨0,none,0,rfl,zF _,rfl,rfl,HF0.out⟩
 case round=>
  obtain⟨k,A1,c1,rfl,hk,rfl,rfl,hr⟩:=hrel;have q3:=hr.e.cell 3 rfl;by_cases hlt2:k < n
  ·have hk1:k < l.length:=by rw[← HN.out];exact hlt2
   obtain⟨a,ha⟩:∃a,l[k]? =some a:=⟨_,zg hk1⟩;obtain⟨q,off,rfl,_,b0,b1,b2⟩:=(HR.after hr.bl).o3 ha;obtain⟨t,ht⟩:∃t,bP ex l k=t:=⟨_,rfl⟩;have CLk:=zo (fun W hb=>CL.out k W hlt2 hb)
   have HL:Hid ((Dv ex l dv nv k).length=k):=sV ex l dv nv k zy;have WU:Hid (Dv ex l dv nv (k+1)=Dv ex l dv nv k++[rfO ex l dv nv k a]):=by show Dv _ _ _ _ k++_=_;rw[ha]
   have HU1:Hid (uD ex l dv true (k+1)=(uD ex l dv true k || t == 100)):=by show (_ || _)=_;rw[← ht];rfl
   have HU2:Hid (uD ex l nv false (k+1)=(uD ex l nv false k || (t != 0 && t != 100))):=by show (_ || _)=_;rw[← ht];rfl
   have HDk:Hid (t=100→qO (gJ 100).1 (gJ 100).2 dv=true):=fun e=>HD.out k (ht.trans e)
   have HVk:Hid (t≠0→t≠100→qO (gJ t).1 (gJ t).2 nv=true):=fun e1 e2=>by have:=HV.out k (by rw[ht];exact e1) (by rw[ht];exact e2);rwa [ht] at this
   have hO:rfO ex l dv nv k a=if t=0 then a else if t=100 then (a.1,a.2.1,dv) else (a.1,a.2.1,nv):=by unfold rfO;rw[ht]
   have hmem:=D7 ex l k;rw[hO] at WU;simp only[ht] at CLk hmem;obtain⟨a0,a1,a2⟩:=a;have Hc0:Hid (wr.cell? ⟨q,off+k * 3,none⟩=some (.int .i64 a0)):=b0;simp only at b0 b1 b2 WU;have e0:=hr.e.cell 0 rfl;have e1:=hr.e.cell 1 rfl;have e2:=hr.e.cell 2 rfl;have e4:=hr.e.cell 4 rfl;have e5:=hr.e.cell 5 rfl;rcases hmem with rfl|hmem
   ·simp only[if_true] at WU;clear ht hO CW;have HB1:=zo ((zh wr.heap.size wr).alloc (zn _) (.cells #[.int .i64 a0,.int .i64 a1,.int .i64 a2] 174));have Ls:=zo (Bk.new wr 174 [.int .i64 a0,.int .i64 a1,.int .i64 a2]);have kW:=zo (hr.e.alloc (.cells #[.int .i64 a0,.int .i64 a1,.int .i64 a2] 174));have d0:=kW.cell 0 rfl;have d1:=kW.cell 1 rfl;have d2:=kW.cell 2 rfl;have d3:=kW.cell 3 rfl;have d4:=kW.cell 4 rfl;have d5:=kW.cell 5 rfl
    go_wp2_with (first
     |(go_at_call 81;go_loud (refine (CLk.out _ (hr.bl.trans (HB1.mono hr.bl.size))).mono ?_;rintro e w2 ⟨rfl,hb⟩;have HB3:=zo (HB1.trans (hb.mono HB1.size));have KZ:=zo (Ls.after hb);clear hb;have BQ:=zo (HB3.alloc HB3.size (.cells #[.int .i64 a0,.int .i64 a1,.int .i64 a2] 174));have HOw:=zo (show (w2.alloc (.cells #[.int .i64 a0,.int .i64 a1,.int .i64 a2] 174)).ownsRow (w.heap.size+1+1+1) 174 3 (.slice A1 k c1) k (dD (Dv ex l dv nv k)) by have:=(hr.after BQ.out).own;rwa [HL.out] at this);have y0:=KZ.cell 0 rfl;have y1:=KZ.cell 1 rfl;have y2:=KZ.cell 2 rfl;have z3:=(hr.after HB3.out).i.cell 1 rfl))
     |(at_builtin;refine bu AZ rfl (.tmp 66) (.tmp 68) rfl (w.heap.size+1+1+1) _ k (dD (Dv ex l dv nv k)) (fun _=>True) _ 1 1 (Ll (a0,a1,a2)) rfl rfl HOw.out rfl (Rd.new _ _ _ trivial) (fun v hv=>by simp[Ll] at hv;rcases hv with rfl|rfl|rfl<;>rfl) (by unfold maxLen;omega) zy (by have h1:=hr.i.lt;have h2:=BQ.size;omega) ?_;go_loud (intro v2 w4 ho hg ha _;obtain⟨A2,c2,rfl,_⟩:=bg ho;have i4:=hr.kept BQ.out hg;have x1:=i4.cell 1 rfl;have x2:=i4.frozen 1;have HS:=zo (hr.more BQ.out HL.out WU.out ho hg);clear ho hg ha i4)))
    go_roundw
    case rel=>exact⟨k+1,A2,c2,by go_num,zy,by rw[HU1.out];simp,by rw[HU2.out];simp,HS.out⟩
    case measure=>simp[intOf];omega
   ·simp only[aX,List.mem_cons,List.not_mem_nil,or_false] at hmem;clear ht hO;rcases hmem with rfl|rfl|rfl|rfl
    ·simp at WU;have HB1:=zo ((zh wr.heap.size wr).alloc (zn _) (.cells #[.int .i64 a0,.int .i64 a1,.int .i64 a2] 174));have Ls:=zo (Bk.new wr 174 [.int .i64 a0,.int .i64 a1,.int .i64 a2]);have kW:=zo (hr.e.alloc (.cells #[.int .i64 a0,.int .i64 a1,.int .i64 a2] 174));have d0:=kW.cell 0 rfl;have d1:=kW.cell 1 rfl;have d2:=kW.cell 2 rfl;have d3:=kW.cell 3 rfl;have d4:=kW.cell 4 rfl;have d5:=kW.cell 5 rfl;have HX:=zo (HDk.out rfl)
     go_wp2_with (first
      |(go_at_call 81;go_loud (refine (CLk.out _ (hr.bl.trans (HB1.mono hr.bl.size))).mono ?_;rintro e w2 ⟨rfl,hb⟩;have HB2:=zo (HB1.trans (hb.mono HB1.size));have uW:=zo (Ls.after hb);have o2:=uW.cell 2 rfl;have f2:=uW.frozen 2;have o3:=(uW.set 2 (.int .i64 dv)).cell 2 rfl;clear hb))
      |(go_at_call 82;go_loud (refine (CW.out 100 dv (w2.setCell ⟨wr.heap.size,2,none⟩ (.int .i64 dv)) (by simp[aX]) HX.out ((hr.bl.trans (HB2.mono hr.bl.size)).setCell hr.bl.size _)).mono ?_;rintro e w3 ⟨rfl,hb⟩;have HB3:=zo ((HB2.setCell (zn _) (.int .i64 dv)).trans (hb.mono (by have:=HB2.size;simpa using this)));have KZ:Hid (Bk w3 wr.heap.size 174 [.int .i64 a0,.int .i64 a1,.int .i64 dv]):=zo ((uW.set 2 (.int .i64 dv)).after hb);clear hb;have BQ:=zo (HB3.alloc HB3.size (.cells #[.int .i64 a0,.int .i64 a1,.int .i64 dv] 174));have HOw:=zo (show (w3.alloc (.cells #[.int .i64 a0,.int .i64 a1,.int .i64 dv] 174)).ownsRow (w.heap.size+1+1+1) 174 3 (.slice A1 k c1) k (dD (Dv ex l dv nv k)) by have:=(hr.after BQ.out).own;rwa [HL.out] at this);have y0:=KZ.cell 0 rfl;have y1:=KZ.cell 1 rfl;have y2:=KZ.cell 2 rfl;have z3:=(hr.after HB3.out).i.cell 1 rfl))
      |(at_builtin;refine bu AZ rfl (.tmp 66) (.tmp 68) rfl (w.heap.size+1+1+1) _ k (dD (Dv ex l dv nv k)) (fun _=>True) _ 1 1 (Ll (a0,a1,dv)) rfl rfl HOw.out rfl (Rd.new _ _ _ trivial) (fun v hv=>by simp[Ll] at hv;rcases hv with rfl|rfl|rfl<;>rfl) (by unfold maxLen;omega) zy (by have h1:=hr.i.lt;have h2:=BQ.size;omega) ?_;go_loud (intro v2 w4 ho hg ha _;obtain⟨A2,c2,rfl,_⟩:=bg ho;have i4:=hr.kept BQ.out hg;have x1:=i4.cell 1 rfl;have x2:=i4.frozen 1;have HS:=zo (hr.more BQ.out HL.out WU.out ho hg);clear ho hg ha i4)))
     go_roundw
     case rel=>exact⟨k+1,A2,c2,by go_num,zy,by rw[HU1.out];simp,by rw[HU2.out];simp,HS.out⟩
     case measure=>simp[intOf];omega
    ·simp at WU;have HB1:=zo ((zh wr.heap.size wr).alloc (zn _) (.cells #[.int .i64 a0,.int .i64 a1,.int .i64 a2] 174));have Ls:=zo (Bk.new wr 174 [.int .i64 a0,.int .i64 a1,.int .i64 a2]);have kW:=zo (hr.e.alloc (.cells #[.int .i64 a0,.int .i64 a1,.int .i64 a2] 174));have d0:=kW.cell 0 rfl;have d1:=kW.cell 1 rfl;have d2:=kW.cell 2 rfl;have d3:=kW.cell 3 rfl;have d4:=kW.cell 4 rfl;have d5:=kW.cell 5 rfl;have HX:=zo (HVk.out zx zx)
     go_wp2_with (first
      |(go_at_call 81;go_loud (refine (CLk.out _ (hr.bl.trans (HB1.mono hr.bl.size))).mono ?_;rintro e w2 ⟨rfl,hb⟩;have HB2:=zo (HB1.trans (hb.mono HB1.size));have uW:=zo (Ls.after hb);have o2:=uW.cell 2 rfl;have f2:=uW.frozen 2;have o3:=(uW.set 2 (.int .i64 nv)).cell 2 rfl;clear hb))
      |(go_at_call 82;go_loud (refine (CW.out 101 nv (w2.setCell ⟨wr.heap.size,2,none⟩ (.int .i64 nv)) (by simp[aX]) HX.out ((hr.bl.trans (HB2.mono hr.bl.size)).setCell hr.bl.size _)).mono ?_;rintro e w3 ⟨rfl,hb⟩;have HB3:=zo ((HB2.setCell (zn _) (.int .i64 nv)).trans (hb.mono (by have:=HB2.size;simpa using this)));have KZ:Hid (Bk w3 wr.heap.size 174 [.int .i64 a0,.int .i64 a1,.int .i64 nv]):=zo ((uW.set 2 (.int .i64 nv)).after hb);clear hb;have BQ:=zo (HB3.alloc HB3.size (.cells #[.int .i64 a0,.int .i64 a1,.int .i64 nv] 174));have HOw:=zo (show (w3.alloc (.cells #[.int .i64 a0,.int .i64 a1,.int .i64 nv] 174)).ownsRow (w.heap.size+1+1+1) 174 3 (.slice A1 k c1) k (dD (Dv ex l dv nv k)) by have:=(hr.after BQ.out).own;rwa [HL.out] at this);have y0:=KZ.cell 0 rfl;have y1:=KZ.cell 1 rfl;have y2:=KZ.cell 2 rfl;have z3:=(hr.after HB3.out).i.cell 1 rfl))
      |(at_builtin;refine bu AZ rfl (.tmp 66) (.tmp 68) rfl (w.heap.size+1+1+1) _ k (dD (Dv ex l dv nv k)) (fun _=>True) _ 1 1 (Ll (a0,a1,nv)) rfl rfl HOw.out rfl (Rd.new _ _ _ trivial) (fun v hv=>by simp[Ll] at hv;rcases hv with rfl|rfl|rfl<;>rfl) (by unfold maxLen;omega) zy (by have h1:=hr.i.lt;have h2:=BQ.size;omega) ?_;go_loud (intro v2 w4 ho hg ha _;obtain⟨A2,c2,rfl,_⟩:=bg ho;have i4:=hr.kept BQ.out hg;have x1:=i4.cell 1 rfl;have x2:=i4.frozen 1;have HS:=zo (hr.more BQ.out HL.out WU.out ho hg);clear ho hg ha i4)))
     go_roundw
     case rel=>exact⟨k+1,A2,c2,by go_num,zy,by rw[HU1.out];simp,by rw[HU2.out];simp,HS.out⟩
     case measure=>simp[intOf];omega
    ·simp at WU;have HB1:=zo ((zh wr.heap.size wr).alloc (zn _) (.cells #[.int .i64 a0,.int .i64 a1,.int .i64 a2] 174));have Ls:=zo (Bk.new wr 174 [.int .i64 a0,.int .i64 a1,.int .i64 a2]);have kW:=zo (hr.e.alloc (.cells #[.int .i64 a0,.int .i64 a1,.int .i64 a2] 174));have d0:=kW.cell 0 rfl;have d1:=kW.cell 1 rfl;have d2:=kW.cell 2 rfl;have d3:=kW.cell 3 rfl;have d4:=kW.cell 4 rfl;have d5:=kW.cell 5 rfl;have HX:=zo (HVk.out zx zx)
     go_wp2_with (first
      |(go_at_call 81;go_loud (refine (CLk.out _ (hr.bl.trans (HB1.mono hr.bl.size))).mono ?_;rintro e w2 ⟨rfl,hb⟩;have HB2:=zo (HB1.trans (hb.mono HB1.size));have uW:=zo (Ls.after hb);have o2:=uW.cell 2 rfl;have f2:=uW.frozen 2;have o3:=(uW.set 2 (.int .i64 nv)).cell 2 rfl;clear hb))
      |(go_at_call 82;go_loud (refine (CW.out 110 nv (w2.setCell ⟨wr.heap.size,2,none⟩ (.int .i64 nv)) (by simp[aX]) HX.out ((hr.bl.trans (HB2.mono hr.bl.size)).setCell hr.bl.size _)).mono ?_;rintro e w3 ⟨rfl,hb⟩;have HB3:=zo ((HB2.setCell (zn _) (.int .i64 nv)).trans (hb.mono (by have:=HB2.size;simpa using this)));have KZ:Hid (Bk w3 wr.heap.size 174 [.int .i64 a0,.int .i64 a1,.int .i64 nv]):=zo ((uW.set 2 (.int .i64 nv)).after hb);clear hb;have BQ:=zo (HB3.alloc HB3.size (.cells #[.int .i64 a0,.int .i64 a1,.int .i64 nv] 174));have HOw:=zo (show (w3.alloc (.cells #[.int .i64 a0,.int .i64 a1,.int .i64 nv] 174)).ownsRow (w.heap.size+1+1+1) 174 3 (.slice A1 k c1) k (dD (Dv ex l dv nv k)) by have:=(hr.after BQ.out).own;rwa [HL.out] at this);have y0:=KZ.cell 0 rfl;have y1:=KZ.cell 1 rfl;have y2:=KZ.cell 2 rfl;have z3:=(hr.after HB3.out).i.cell 1 rfl))
      |(at_builtin;refine bu AZ rfl (.tmp 66) (.tmp 68) rfl (w.heap.size+1+1+1) _ k (dD (Dv ex l dv nv k)) (fun _=>True) _ 1 1 (Ll (a0,a1,nv)) rfl rfl HOw.out rfl (Rd.new _ _ _ trivial) (fun v hv=>by simp[Ll] at hv;rcases hv with rfl|rfl|rfl<;>rfl) (by unfold maxLen;omega) zy (by have h1:=hr.i.lt;have h2:=BQ.size;omega) ?_;go_loud (intro v2 w4 ho hg ha _;obtain⟨A2,c2,rfl,_⟩:=bg ho;have i4:=hr.kept BQ.out hg;have x1:=i4.cell 1 rfl;have x2:=i4.frozen 1;have HS:=zo (hr.more BQ.out HL.out WU.out ho hg);clear ho hg ha i4)))
     go_roundw
     case rel=>exact⟨k+1,A2,c2,by go_num,zy,by rw[HU1.out];simp,by rw[HU2.out];simp,HS.out⟩
     case measure=>simp[intOf];omega
    ·simp at WU;have HB1:=zo ((zh wr.heap.size wr).alloc (zn _) (.cells #[.int .i64 a0,.int .i64 a1,.int .i64 a2] 174));have Ls:=zo (Bk.new wr 174 [.int .i64 a0,.int .i64 a1,.int .i64 a2]);have kW:=zo (hr.e.alloc (.cells #[.int .i64 a0,.int .i64 a1,.int .i64 a2] 174));have d0:=kW.cell 0 rfl;have d1:=kW.cell 1 rfl;have d2:=kW.cell 2 rfl;have d3:=kW.cell 3 rfl;have d4:=kW.cell 4 rfl;have d5:=kW.cell 5 rfl;have HX:=zo (HVk.out zx zx)
     go_wp2_with (first
      |(go_at_call 81;go_loud (refine (CLk.out _ (hr.bl.trans (HB1.mono hr.bl.size))).mono ?_;rintro e w2 ⟨rfl,hb⟩;have HB2:=zo (HB1.trans (hb.mono HB1.size));have uW:=zo (Ls.after hb);have o2:=uW.cell 2 rfl;have f2:=uW.frozen 2;have o3:=(uW.set 2 (.int .i64 nv)).cell 2 rfl;clear hb))
      |(go_at_call 82;go_loud (refine (CW.out 119 nv (w2.setCell ⟨wr.heap.size,2,none⟩ (.int .i64 nv)) (by simp[aX]) HX.out ((hr.bl.trans (HB2.mono hr.bl.size)).setCell hr.bl.size _)).mono ?_;rintro e w3 ⟨rfl,hb⟩;have HB3:=zo ((HB2.setCell (zn _) (.int .i64 nv)).trans (hb.mono (by have:=HB2.size;simpa using this)));have KZ:Hid (Bk w3 wr.heap.size 174 [.int .i64 a0,.int .i64 a1,.int .i64 nv]):=zo ((uW.set 2 (.int .i64 nv)).after hb);clear hb;have BQ:=zo (HB3.alloc HB3.size (.cells #[.int .i64 a0,.int .i64 a1,.int .i64 nv] 174));have HOw:=zo (show (w3.alloc (.cells #[.int .i64 a0,.int .i64 a1,.int .i64 nv] 174)).ownsRow (w.heap.size+1+1+1) 174 3 (.slice A1 k c1) k (dD (Dv ex l dv nv k)) by have:=(hr.after BQ.out).own;rwa [HL.out] at this);have y0:=KZ.cell 0 rfl;have y1:=KZ.cell 1 rfl;have y2:=KZ.cell 2 rfl;have z3:=(hr.after HB3.out).i.cell 1 rfl))
      |(at_builtin;refine bu AZ rfl (.tmp 66) (.tmp 68) rfl (w.heap.size+1+1+1) _ k (dD (Dv ex l dv nv k)) (fun _=>True) _ 1 1 (Ll (a0,a1,nv)) rfl rfl HOw.out rfl (Rd.new _ _ _ trivial) (fun v hv=>by simp[Ll] at hv;rcases hv with rfl|rfl|rfl<;>rfl) (by unfold maxLen;omega) zy (by have h1:=hr.i.lt;have h2:=BQ.size;omega) ?_;go_loud (intro v2 w4 ho hg ha _;obtain⟨A2,c2,rfl,_⟩:=bg ho;have i4:=hr.kept BQ.out hg;have x1:=i4.cell 1 rfl;have x2:=i4.frozen 1;have HS:=zo (hr.more BQ.out HL.out WU.out ho hg);clear ho hg ha i4)))
     go_roundw
     case rel=>exact⟨k+1,A2,c2,by go_num,zy,by rw[HU1.out];simp,by rw[HU2.out];simp,HS.out⟩
     case measure=>simp[intOf];omega
  ·have hkn:k=n:=zy;subst hkn;have hU:=HU.out;rw[hU.1,hU.2];have q0:=hr.i.cell 0 rfl;have q1:=hr.i.cell 1 rfl;have HL:Hid ((Dv ex l dv nv k).length=k):=sV ex l dv nv k (by have:=HN.out;omega)
   clear hU
   go_wp2_with (refine aN rfl 28 (.tmp 6) (.tmp 78) rfl (w.heap.size+1) 0 [.string s,.slice A1 k c1] rfl rfl 28 _ hr.r rfl zw (by simp[Value.oneCell']) ?_;intro w5 hk5 hg5;have HG5:=zo hg5;have y0:=hk5.cell 0 rfl;have y1:=hk5.cell 1 rfl;clear hk5 hg5)
   refine⟨rfl,.tuple #[.agg #[.string s,.slice A1 k c1],.bool true],by simp[results,Tryz.results37,go_sem,y0,y1],A1,c1,by rw[HL.out],?_,?_⟩
   ·have h1:=Rd.jf (p:=fun i=>w.heap.size+1+1+1≤i) (by have:=hr.own;rwa [HL.out] at this) fun i h _=>h
    exact (h1.grown HG5.out fun i _ h e=>by have:i=w.heap.size+1:=zq e;omega).mono fun i _ h=>by omega
   ·exact hr.bl.grown HG5.out hr.bl.size fun k e=>by have:w.heap.size+1=k:=zq e;omega
end
section
open Go.RowKit Ex
def qM (vd vn:Option Vr)(d n:Int)(k:Nat)(z:Int):Int:=match vn with
 |some y=>if k=y.1 then n else (match vd with
  |some x=>if k=x.1 then d else z
  |none=>z)
 |none=>(match vd with
  |some x=>if k=x.1 then d else z
  |none=>z)
theorem mP (vd vn:Option Vr)(le:List aG)(d n:Int)(k:Nat):(eO vd vn le d n)[k]? =(le[k]?).map fun o=>(o.1,o.2.1,qM vd vn d n k o.2.2):=by
 unfold eO pM qM
 cases vn with
 |none=>
  cases vd with
  |none=>simp
  |some x=>
   simp only[eG];split<;>simp
 |some y=>
  cases vd with
  |none=>
   simp only[eG];split<;>simp
  |some x=>
   simp only[eG]
   split<;>split<;>first
    |(simp;done)
    |(cases le[k]?<;>rfl)
def ahe (k r n:Nat):Bool:=aP ((k:Int),(r:Int),(n:Int))
def afu:List Nat→Bool
 |k::r::n::l=>ahe k r n && afu l
 |_=>true
def knV (ks:List Nat)(f:Nat→Int→Int→Bool):Option Vr→Bool
 |none=>true
 |some v=>match iw ks v.1 with
  |some k=>f k v.2.1 v.2.2
  |none=>false
def wBr (k:Nat)(lo hi:Int):Bool:=cond (Nat.beq k 10) (nJ lo (.negSucc 127) && nJ hi (.ofNat 127)) ((Nat.beq k 6 || Nat.beq k 7) && (nJ lo (.ofNat 0) && (nJ hi (.ofNat 255) || nJ hi (.ofNat 65535))))
def wBd (k:Nat)(lo hi:Int):Bool:=Nat.beq k 5 && (nJ lo (.negSucc 127) && nJ hi (.ofNat 127))
def cnB (_p _o:Nat)(d:bL):Bool:=match d.1 with
 |1=>d.2.2.2.1 || (afu d.2.2.2.2 && (knV (bZ d.2.2.2.2) wBd (kQ d) && (knV (bZ d.2.2.2.2) wBr (l8 d) && gV d.2.1 fe)))
 |_=>true
theorem ajN:allT cnB 0 DF=true:=by kernel_rfl
theorem MO:∀{cs:List Nat} {k:Nat} {o:aG},afu cs=true→(opsL cs)[k]? =some o→∃a r n:Nat,o=((a:Int),(r:Int),(n:Int))∧aP o=true∧iw (bZ cs) k=some a
 |[],k,_,_,h=>by simp[opsL] at h
 |[_],k,_,_,h=>by simp[opsL] at h
 |[_,_],k,_,_,h=>by simp[opsL] at h
 |a::r::n::cs,k,o,ha,h=>by
  unfold afu at ha;simp only[Bool.and_eq_true] at ha
  cases k with
  |zero=>
   obtain rfl:=zq h;exact⟨a,r,n,rfl,ha.1,rfl⟩
  |succ k=>exact MO (cs:=cs) (k:=k) ha.2 h
structure aku (d:bL)(l:List aG):Prop where
 nm:d.2.1∈fe
 len:l.length=(opsL d.2.2.2.2).length
 l3:l.length≤3
 ok:∀o∈l,OpC o
 fit:kI (ag d.2.1) l d=true
theorem aaH {p o:Nat}{d:bL}(hd:jd p o=some d)(hk:d.1=1)(hal:d.2.2.2.1=false){dv nv:Int}(hdv:FO (kQ d) dv=true)(hnv:FO (l8 d) nv=true):aku d (eO (kQ d) (l8 d) (opsL d.2.2.2.2) dv nv):=by
 have hc:=dL ajN hd;unfold cnB at hc;rw[hk] at hc;simp only[hal,Bool.false_or,Bool.and_eq_true] at hc;obtain⟨c1,c2,c3,c4⟩:=hc;have hF:=jk hd hk;obtain⟨hm3,hm9,_,_⟩:=eF hd;have hlen:(eO (kQ d) (l8 d) (opsL d.2.2.2.2) dv nv).length=(opsL d.2.2.2.2).length:=by unfold eO;rw[iL,iL]
 have hle:(opsL d.2.2.2.2).length=d.2.2.2.2.length / 3:=o6 _ hm3;generalize hvd:kQ d=vd at c2 hdv hlen ⊢;generalize Hz:l8 d=vn at c3 hnv hlen ⊢
 have get:∀k o,(eO vd vn (opsL d.2.2.2.2) dv nv)[k]? =some o→∃a r n:Nat,(opsL d.2.2.2.2)[k]? =some ((a:Int),(r:Int),(n:Int))∧aP ((a:Int),(r:Int),(n:Int))=true∧iw (bZ d.2.2.2.2) k=some a∧o=((a:Int),(r:Int),qM vd vn dv nv k (n:Int)):=fun k o ho=>by
  rw[mP] at ho;obtain⟨o',h1,rfl⟩:=zi.1 ho;obtain⟨a,r,n,rfl,h2,h3⟩:=MO c1 h1;exact⟨a,r,n,h1,h2,h3,rfl⟩
 have ok:∀o∈eO vd vn (opsL d.2.2.2.2) dv nv,OpC o:=fun o ho=>by
  obtain⟨k,hk⟩:=wS.1 ho;obtain⟨a,r,n,_,h2,h3,rfl⟩:=get k o hk;have plain:OpC ((a:Int),(r:Int),(n:Int)):=⟨h2,fun _=>by show (0:Int)≤(n:Int);omega⟩
  have vary:∀z lo hi:Int,qO lo hi z=true→(wBr a lo hi=true∨wBd a lo hi=true)→OpC ((a:Int),(r:Int),z):=fun z lo hi hz hw=>by
   simp only[qO,Bool.and_eq_true,decide_eq_true_eq] at hz
   have hb:(a=10∧lo= -128∧hi=127)∨((a=6∨a=7)∧lo=0∧hi≤65535)∨(a=5∧lo= -128∧hi=127):=by
    rcases hw with hw|hw
    ·unfold wBr at hw
     cases h10:Nat.beq a 10 with
     |true=>
      rw[h10] at hw;simp only[cond_true,Bool.and_eq_true] at hw;exact .inl ⟨(beq_iff _ _).1 h10,eY hw.1,eY hw.2⟩
     |false=>
      rw[h10] at hw;simp only[cond_false,Bool.and_eq_true,Bool.or_eq_true] at hw;obtain⟨w1,w2,w3⟩:=hw;refine .inr (.inl ⟨w1.imp (fun h=>(beq_iff _ _).1 h) fun h=>(beq_iff _ _).1 h,eY w2,?_⟩)
      rcases w3 with w3|w3
      ·have:hi=255:=eY w3;omega
      ·have:hi=65535:=eY w3;omega
    ·unfold wBd at hw;simp only[Bool.and_eq_true] at hw;exact .inr (.inr ⟨(beq_iff _ _).1 hw.1,eY hw.2.1,eY hw.2.2⟩)
   have hr:∀(k:Int) rs l0 h0 l1 h1,lC k=some (rs,l0,h0)→aP (k,(r:Int),(n:Int))=true→l1≤z→z≤h1→l0≤l1→h1≤h0→aP (k,(r:Int),z)=true:=fun k rs l0 h0 l1 h1 e hv q1 q2 q3 q4=>by
    simp only[aP,e,Bool.and_eq_true,decide_eq_true_eq] at hv ⊢;exact⟨hv.1,zy,zy⟩
   rcases hb with⟨rfl,rfl,rfl⟩|⟨rfl|rfl,rfl,hh⟩|⟨rfl,rfl,rfl⟩
   ·exact⟨hr 10 _ _ _ _ _ rfl h2 hz.1 hz.2 zx zx,fun h=>absurd (show (10:Int)=6 from h) zx⟩
   ·exact⟨hr 6 _ _ _ _ _ rfl h2 hz.1 hz.2 zx hh,fun _=>hz.1⟩
   ·exact⟨hr 7 _ _ _ _ _ rfl h2 hz.1 hz.2 zx hh,fun h=>absurd (show (7:Int)=6 from h) zx⟩
   ·exact⟨hr 5 _ _ _ _ _ rfl h2 hz.1 hz.2 zx zx,fun h=>absurd (show (5:Int)=6 from h) zx⟩
  have vD:∀x,vd=some x→k=x.1→OpC ((a:Int),(r:Int),dv):=fun x hx hkx=>by
   rw[hx] at c2 hdv;simp only[knV,← hkx,h3] at c2;exact vary dv _ _ hdv (.inr c2)
  have vN:∀y,vn=some y→k=y.1→OpC ((a:Int),(r:Int),nv):=fun x hx hkx=>by
   rw[hx] at c3 hnv;simp only[knV,← hkx,h3] at c3;exact vary nv _ _ hnv (.inl c3)
  unfold qM;split
  ·split
   ·rename_i y hkx;exact vN y rfl hkx
   ·split
    ·split
     ·rename_i x hkx;exact vD x rfl hkx
     ·exact plain
    ·exact plain
  ·split
   ·split
    ·rename_i x hkx;exact vD x rfl hkx
    ·exact plain
   ·exact plain
 have hz3:(opsL d.2.2.2.2).map bG=(eO vd vn (opsL d.2.2.2.2) dv nv).map bG:=by
  apply xR;intro k;rw[yh,yh,mP]
  cases (opsL d.2.2.2.2)[k]?<;>rfl
 refine⟨DY c4,hlen,zy,ok,?_⟩
 ·have hmD:dO (ag d.2.1) (eO vd vn (opsL d.2.2.2.2) dv nv) d=true:=by
   unfold dO jo;rw[hk,hal];simp[hz3]
  rw[Tc _ _ _ hmD,← NM hF hz3,hvd,Hz];have hF1:=hF.vd;have hF2:=hF.vn;have hF3:=hF.ne;rw[hvd] at hF1;rw[Hz] at hF2;rw[hvd,Hz] at hF3;refine (NJ hz3 hF1 hF2 hF3).2 fun k o ho=>?_
  obtain⟨a,r,n,g1,g2,g3,rfl⟩:=get k o ho;have hn:iJ (opsL d.2.2.2.2) k=(n:Int):=bR g1;unfold qV qM
  cases vd with
  |none=>
   cases vn with
   |none=>exact hn.symm
   |some y=>
    by_cases e:k=y.1
    ·subst e;simp only[if_true];exact hnv
    ·simp only[if_neg e,if_neg (Ne.symm e)];exact hn.symm
  |some x=>
   cases vn with
   |none=>
    by_cases e:k=x.1
    ·subst e;simp only[if_true];exact hdv
    ·simp only[if_neg e,if_neg (Ne.symm e)];exact hn.symm
   |some y=>
    have hxy:=hF3 x y rfl rfl;by_cases e:k=x.1
    ·subst e;simp only[if_neg hxy,if_true];exact hdv
    ·by_cases e2:k=y.1
     ·subst e2;simp only[if_neg (Ne.symm e),if_true];exact hnv
     ·simp only[if_neg e,if_neg e2,if_neg (Ne.symm e),if_neg (Ne.symm e2)];exact hn.symm
end
section
open Go.RowKit Go.Shelf Ex
def OU (l:List UInt8)(k:Nat):Int:=match l[k]? with|some x=>(x.toNat:Int)|none=>0
def rX (l:List UInt8):List Nat→Nat→Int→Int→Int×Int
 |[],_,d,n=>(d,n)
 |c::ex,a,d,n=>rX l ex (a+1) (if c=100 then qo (OU l a) else d) (if c=101 then qo (OU l a) else if c=110 then OU l a else if c=119 then OU l a+256 * OU l (a+1) else n)
theorem Q4 {l:List UInt8}{a:Nat}{x:UInt8}{t:List UInt8}(h:l.drop a=x::t):OU l a=(x.toNat:Int):=by
 have h2:=yg (xs:=l) (i:=a) (j:=0);rw[h] at h2;unfold OU;rw[show l[a]? =some x from h2.symm]
theorem Yj {ex:List Nat}(hex:gV ex jQ=true){l:List UInt8}{a:Nat}{dv nv:Int}(h:Kg ex (l.drop a) 0 0=some (dv,nv)):rX l ex a 0 0=(dv,nv):=by
 have key:∀{x t},l.drop a=x::t→l.drop (a+1)=t:=fun {x t} h=>by rw[← xI,h];rfl
 match hq:l.drop a with
 |[]=>
  rw[hq] at h;rcases gM hex with rfl|rfl|rfl|rfl|rfl|rfl
  ·simpa [Kg,rX] using h
  all_goals simp[Kg] at h
 |x::t=>
  have b0:=Q4 hq;have hk:=key hq;rw[hq] at h;rcases gM hex with rfl|rfl|rfl|rfl|rfl|rfl
  ·simpa [Kg,rX] using h
  ·simpa [Kg,rX,b0] using h
  ·match ht:t with
   |[]=>simp[Kg] at h
   |y::t2=>
    have b1:=Q4 (l:=l) (a:=a+1) hk
    simpa [Kg,rX,b0,b1] using h
  ·simpa [Kg,rX,b0] using h
  ·simpa [Kg,rX,b0] using h
  ·match ht:t with
   |[]=>simp[Kg] at h
   |y::t2=>
    have b1:=Q4 (l:=l) (a:=a+1) hk;simp only[Kg] at h;simp[rX,b0,b1];simp at h;omega
theorem aaS {l:List UInt8}(hl:l≠[]):(l.length≤(l7 l).2∧dec l=(4,l,[],[],false))∨∃o d,l[(l7 l).2]? =some o∧jd (l7 l).1 o.toNat=some d∧(l7 l).1≤6∧
 ((d.1=0∧dec l=(2,l.take 1,[],[],false))∨(d.1=3∧2≤l.length∧dec l=(3,l.take 2,[],[],false))∨(d.1=1∧gV d.2.2.1 jQ=true∧
   ((l.length < Po (l7 l).1 d.2.2.1∧dec l=(4,l,[],[],false))∨
    (Po (l7 l).1 d.2.2.1≤l.length∧(if 5≤(l7 l).1 then 2 else (l7 l).2+1)+oG d.2.2.1≤l.length∧∃dv nv,rX l d.2.2.1 (if 5≤(l7 l).1 then 2 else (l7 l).2+1) 0 0=(dv,nv)∧((BU d.2.2.1).1≤dv∧dv≤(BU d.2.2.1).2)∧((Dp d.2.2.1).1≤nv∧nv≤(Dp d.2.2.1).2)∧
     dec l=(1,l.take (Po (l7 l).1 d.2.2.1),d.2.1,eO (kQ d) (l8 d) (opsL d.2.2.2.2) dv nv,d.2.2.2.1))))):=by
 have hp:=Jw hl;unfold dec;obtain⟨p,nW⟩:∃p,(l7 l).1=p:=⟨_,rfl⟩;obtain⟨a,haa⟩:∃a,(l7 l).2=a:=⟨_,rfl⟩;rw[nW,haa] at hp ⊢;have ap:=hp.ap
 cases ho:l[a]? with
 |none=>exact .inl ⟨yI.1 ho,rfl⟩
 |some o=>
  right;obtain⟨d,hd2⟩:=tT (p:=p) (o:=o.toNat) (by have:=hp.p6;omega) o.toNat_lt
  have hkd:=dL JQ hd2;have hlt:a < l.length:=(zf.1 ho).1;refine⟨o,d,rfl,hd2,hp.p6,?_⟩;simp only[hd2];have hex:gV d.2.2.1 jQ=true:=(eF hd2).2.2.1;unfold aen at hkd;split at hkd
  ·rename_i hk;exact .inl ⟨hk,by unfold FX;rw[hk];rfl⟩
  ·rename_i hk;refine .inr (.inr ⟨hk,hex,?_⟩)
   have hde:FX p a d l=match Kg d.2.2.1 (l.drop (if 5≤p then 2 else a+1)) 0 0 with|none=>(4,l,[],[],false)|some (dv,nv)=>(1,l.take (FB p d),d.2.1,eO (kQ d) (l8 d) (opsL d.2.2.2.2) dv nv,d.2.2.2.1):=by
    unfold FX;rw[hk];rfl
   rw[hde];by_cases h5:5≤p
   ·rw[zW h5] at ap ⊢;unfold ae3 at hkd;rw[yF h5] at hkd;have qZ:=bJ (show gH d.2.2.1 [100]=true from hkd)
    have hp2:(aO p).length=2:=by
     have:p=5∨p=6:=by have:=hp.p6;omega
     rcases this with rfl|rfl<;>rfl
    have hz:Po p d.2.2.1=4:=by
     unfold Po;rw[qZ];have:p=5∨p=6:=by have:=hp.p6;omega
     rcases this with rfl|rfl<;>rfl
    rcases AU hex l 2 zy with⟨dv,nv,h1',h2',h3',h4',h5'⟩|⟨h1',h2'⟩
    ·exact .inr ⟨zy,h5',dv,nv,Yj hex h1',h3',h4',by rw[h1'];rfl⟩
    ·rw[qZ] at h2';have hN:(bs l).length=l.length:=aQ l;rcases h2' with⟨h,_⟩|⟨h,_⟩|⟨_,_,h⟩
     ·omega
     ·cases h
     ·exact h.elim
   ·rw[za h5] at ap ⊢
    have hl1:(aO p).length≤1:=by
     have nW:p=0∨p=1∨p=2∨p=3∨p=4:=zy;rcases nW with rfl|rfl|rfl|rfl|rfl<;>decide
    have hz:Po p d.2.2.1=a+1+oG d.2.2.1:=by
     unfold Po;rw[ap];have nW:p=0∨p=1∨p=2∨p=3∨p=4:=zy;rcases nW with rfl|rfl|rfl|rfl|rfl<;>rfl
    rcases AU hex l (a+1) zy with⟨dv,nv,h1',h2',h3',h4',h5'⟩|⟨h1',h2'⟩
    ·exact .inr ⟨zy,h5',dv,nv,Yj hex h1',h3',h4',by rw[h1'];rfl⟩
    ·have hN:(bs l).length=l.length:=aQ l;refine .inl ⟨?_,by rw[h1']⟩
     rw[hz];rcases gM hex with h|h|h|h|h|h
     all_goals
      rw[h] at h2' ⊢;simp only[show oG []=0 from rfl,show oG [100]=1 from rfl,show oG [100,110]=2 from rfl,show oG [101]=1 from rfl,show oG [110]=1 from rfl,show oG [119]=2 from rfl]
     ·exact h2'.elim
     all_goals
      rcases h2' with⟨q,_⟩|⟨_,q,_⟩|⟨_,_,q⟩
      ·omega
      ·omega
      ·first
        |exact q.elim
        |(rcases q with⟨q,_⟩|⟨_,q,_⟩|⟨_,_,q⟩
          ·omega
          ·omega
          ·exact q.elim)
  ·rename_i hk;simp only[Bool.or_eq_true,Bool.and_eq_true] at hkd;obtain⟨n1,n2⟩:=hp.no o ho;rcases hkd with⟨h0,h|h|h|h⟩|⟨h0,h⟩
   ·exact absurd (iC h zx) (n1 ((beq_iff _ _).1 h0)).1
   ·exact absurd (iC h zx) (n1 ((beq_iff _ _).1 h0)).2.1
   ·exact absurd (iC h zx) (n1 ((beq_iff _ _).1 h0)).2.2.1
   ·exact absurd (iC h zx) (n1 ((beq_iff _ _).1 h0)).2.2.2
   ·exact absurd (iC h zx) (n2 (h0.imp (fun h=>(beq_iff _ _).1 h) fun h=>(beq_iff _ _).1 h))
  ·rename_i hk;obtain rfl:p=2:=(beq_iff _ _).1 hkd;have h1:(aO 2).length=1:=rfl;rw[za zx,h1] at ap;exact .inr (.inl ⟨hk,zy,by unfold FX;rw[hk];rfl⟩)
  ·cases hkd
def isK (k:Nat):Option Vr→Bool
 |some v=>Nat.beq k v.1
 |none=>false
def amt (_p _o:Nat)(d:bL):Bool:=match d.1 with
 |1=>([0,1,2].all fun k=>Nat.ble (opsL d.2.2.2.2).length k || cond (isK k (l8 d)) (!(Nat.beq (bP d.2.2.1 (opsL d.2.2.2.2) k) 0) && !(Nat.beq (bP d.2.2.1 (opsL d.2.2.2.2) k) 100)) (cond (isK k (kQ d)) (Nat.beq (bP d.2.2.1 (opsL d.2.2.2.2) k) 100) (Nat.beq (bP d.2.2.1 (opsL d.2.2.2.2) k) 0))) &&
   ((!(fG 100 d.2.2.1) || [0,1,2].any fun k=>Nat.beq (bP d.2.2.1 (opsL d.2.2.2.2) k) 100) && (!(fG 101 d.2.2.1 || (fG 110 d.2.2.1 || fG 119 d.2.2.1)) || [0,1,2].any fun k=>!(Nat.beq (bP d.2.2.1 (opsL d.2.2.2.2) k) 0) && !(Nat.beq (bP d.2.2.1 (opsL d.2.2.2.2) k) 100)))
 |_=>true
theorem aef:allT amt 0 DF=true:=by kernel_rfl
theorem Nb {ex:List Nat}{l:List aG}{k c:Nat}(h:bP ex l k=c)(h0:c≠0):fG c ex=true:=by
 unfold bP at h;split at h
 ·exact absurd h.symm h0
 ·unfold Nc at h;split at h
  ·rename_i q;simp only[Bool.and_eq_true] at q;rw[← h];exact q.2
  split at h
  ·rename_i q;simp only[Bool.and_eq_true] at q;rw[← h];exact q.2
  split at h
  ·exact absurd h.symm h0
  split at h
  ·exact absurd h.symm h0
  split at h
  ·rename_i q;rw[← h];exact q
  split at h
  ·rename_i q;rw[← h];exact q
  exact absurd h.symm h0
theorem SB {ex:List Nat}{l:List aG}{k:Nat}(h:bP ex l k≠0):k < l.length:=by
 rcases zP k l.length with q|q
 ·exact q
 ·exact absurd (by unfold bP;rw[yI.2 q]) h
theorem RY (ex:List Nat)(l:List aG)(dv nv:Int):∀n,n≤l.length→∀k,k < n→(Dv ex l dv nv n)[k]? =(l[k]?).map (rfO ex l dv nv k)
 |0,_,k,hk=>by omega
 |n+1,hn,k,hk=>by
  have e:l[n]? =some l[n]:=zg zy;have hL:=sV ex l dv nv n zy;simp only[Dv,e];by_cases h:k < n
  ·rw[xz zy];exact RY ex l dv nv n zy k h
  ·obtain rfl:k=n:=zy;rw[yR zy,hL,Nat.sub_self,e];rfl
theorem I1 (ex:List Nat)(l:List aG)(d:Bool):∀n,uD ex l 0 d n=true
 |0=>rfl
 |n+1=>by show (uD ex l 0 d n || _)=true;rw[I1 ex l d n];rfl
theorem I4 {ex:List Nat}{l:List aG}{z:Int}{d:Bool}{k:Nat}(h:(if d then bP ex l k == 100 else (bP ex l k != 0 && bP ex l k != 100))=true):∀n,k < n→uD ex l z d n=true
 |0,hk=>by omega
 |n+1,hk=>by
  show (uD ex l z d n || _)=true;by_cases e:k < n
  ·rw[I4 h n e];rfl
  ·obtain rfl:k=n:=zy;rw[h,Bool.or_true]
structure RfF (d:bL)(dv nv:Int):Prop where
 eq:Dv d.2.2.1 (opsL d.2.2.2.2) dv nv (opsL d.2.2.2.2).length=eO (kQ d) (l8 d) (opsL d.2.2.2.2) dv nv
 hd:∀k,bP d.2.2.1 (opsL d.2.2.2.2) k=100→qO (gJ 100).1 (gJ 100).2 dv=true
 hv:∀k,bP d.2.2.1 (opsL d.2.2.2.2) k≠0→bP d.2.2.1 (opsL d.2.2.2.2) k≠100→qO (gJ (bP d.2.2.1 (opsL d.2.2.2.2) k)).1 (gJ (bP d.2.2.1 (opsL d.2.2.2.2) k)).2 nv=true
 ud:uD d.2.2.1 (opsL d.2.2.2.2) dv true (opsL d.2.2.2.2).length=true
 un:uD d.2.2.1 (opsL d.2.2.2.2) nv false (opsL d.2.2.2.2).length=true
theorem adi {p o:Nat}{d:bL}(hd:jd p o=some d)(hk:d.1=1){dv nv:Int}(h1:(BU d.2.2.1).1≤dv∧dv≤(BU d.2.2.1).2)(h2:(Dp d.2.2.1).1≤nv∧nv≤(Dp d.2.2.1).2):RfF d dv nv:=by
 have h:=dL aef hd;obtain⟨m1,m2,hex,_⟩:=eF hd;have h3:(opsL d.2.2.2.2).length≤3:=by rw[o6 _ m1];omega
 unfold amt at h;rw[hk] at h;simp only[Bool.and_eq_true] at h;obtain⟨ha,hb,hc⟩:=h;have inr:∀{a b z:Int},a≤z∧z≤b→qO a b z=true:=fun {a b z} h=>by simp[qO,h.1,h.2]
 have mem3:∀{k},k < 3→k∈[0,1,2]:=fun {k} h=>by simp;omega
 refine⟨xR fun k=>?_,fun k e=>?_,fun k e0 e1=>?_,?_,?_⟩
 ·rw[mP];rcases zP k (opsL d.2.2.2.2).length with hlt|hge
  ·rw[RY _ _ _ _ _ (zn _) k hlt];have q:=zY.1 ha k (mem3 zy);rw[show Nat.ble (opsL d.2.2.2.2).length k=false from by cases hq:Nat.ble (opsL d.2.2.2.2).length k with|true=>exact absurd (zk hq) zy|false=>rfl,Bool.false_or] at q
   refine yV (fun f=>Option.map f (opsL d.2.2.2.2)[k]?) (funext fun x=>?_)
   unfold rfO qM;generalize bP d.2.2.1 (opsL d.2.2.2.2) k=t at q;have fn:∀v:Vr,Nat.beq k v.1=true→k=v.1:=fun v e=>(beq_iff _ _).1 e
   have fz:∀v:Vr,Nat.beq k v.1=false→¬k=v.1:=fun v e e2=>by rw[e2,Nat.beq_refl] at e;cases e
   cases hn:l8 d with
   |some y=>
    rw[hn] at q;dsimp only
    cases hq:Nat.beq k y.1 with
    |true=>
     simp only[isK,hq,cond_true,Bool.and_eq_true,Bool.not_eq_true'] at q;rw[za (fun e=>by rw[e] at q;exact absurd q.1 zx),za (fun e=>by rw[e] at q;exact absurd q.2 zx),zW (fn y hq)]
    |false=>
     simp only[isK,hq,cond_false] at q;rw[za (fz y hq)]
     cases hdv:kQ d with
     |some v=>
      rw[hdv] at q
      try dsimp only
      cases hq2:Nat.beq k v.1 with
      |true=>
       simp only[hq2,cond_true] at q;rw[(beq_iff _ _).1 q,za zx,zW rfl,zW (fn v hq2)]
      |false=>
       simp only[hq2,cond_false] at q;rw[(beq_iff _ _).1 q,zW rfl,za (fz v hq2)]
     |none=>
      rw[hdv] at q
      try dsimp only
      simp only[cond_false] at q;rw[(beq_iff _ _).1 q,zW rfl]
   |none=>
    rw[hn] at q;dsimp only;simp only[isK,cond_false] at q
    cases hdv:kQ d with
    |some v=>
     rw[hdv] at q
     try dsimp only
     cases hq2:Nat.beq k v.1 with
     |true=>
      simp only[hq2,cond_true] at q;rw[(beq_iff _ _).1 q,za zx,zW rfl,zW (fn v hq2)]
     |false=>
      simp only[hq2,cond_false] at q;rw[(beq_iff _ _).1 q,zW rfl,za (fz v hq2)]
    |none=>
     rw[hdv] at q
     try dsimp only
     simp only[cond_false] at q;rw[(beq_iff _ _).1 q,zW rfl]
  ·rw[yI.2 hge,yI.2 (by rw[sV _ _ _ _ _ (zn _)];exact hge)]
   rfl
 ·have:=Nb e zx;unfold BU at h1;rw[this] at h1;exact inr h1
 ·have hh:=Nb (rfl:bP d.2.2.1 (opsL d.2.2.2.2) k=_) e0;have hm:=(D7 d.2.2.1 (opsL d.2.2.2.2) k).resolve_left e0;generalize bP d.2.2.1 (opsL d.2.2.2.2) k=t at e0 e1 hh hm ⊢;refine inr ?_;simp only[aX,List.mem_cons,List.not_mem_nil,or_false] at hm;rcases gM hex with q|q|q|q|q|q<;>rw[q] at hh h2<;>rcases hm with rfl|rfl|rfl|rfl<;>first|exact h2|(exact absurd rfl e1)|(exact absurd hh zx)
 ·cases hq:fG 100 d.2.2.1 with
  |true=>
   rw[hq] at hb;obtain⟨k,_,e⟩:=xY.1 (show _=true from hb)
   have e:bP d.2.2.1 (opsL d.2.2.2.2) k=100:=(beq_iff _ _).1 e;exact I4 (k:=k) (by rw[e];rfl) _ (SB (by rw[e];decide))
  |false=>
   unfold BU at h1;rw[hq] at h1;have h1:(0:Int)≤dv∧dv≤0:=h1;obtain rfl:dv=0:=zy;exact I1 _ _ _ _
 ·cases hq:(fG 101 d.2.2.1 || (fG 110 d.2.2.1 || fG 119 d.2.2.1)) with
  |true=>
   rw[hq] at hc;obtain⟨k,_,e⟩:=xY.1 (show _=true from hc)
   simp only[Bool.and_eq_true,Bool.not_eq_true'] at e;have e0:bP d.2.2.1 (opsL d.2.2.2.2) k≠0:=fun q=>by rw[q] at e;exact absurd e.1 zx
   have e1:bP d.2.2.1 (opsL d.2.2.2.2) k≠100:=fun q=>by rw[q] at e;exact absurd e.2 zx
   exact I4 (k:=k) (by simp[e0,e1]) _ (SB e0)
  |false=>
   simp only[Bool.or_eq_false_iff] at hq;unfold Dp at h2;rw[hq.1,hq.2.1,hq.2.2] at h2;have h2:(0:Int)≤nv∧nv≤0:=h2;obtain rfl:nv=0:=zy;exact I1 _ _ _ _
end
section
open Go.RowKit Ex
def Ed (r:Rj):List Nat×List aG:=if r.1=1∧r.2.2.2.2=false then (r.2.2.1,r.2.2.2.1) else ([68,69,70,66],daO r.2.1)
def Ec (r:Rj):List UInt8:=shX (Ed r).1 (Ed r).2
def TK (r:Rj):Prop:=r.2.1≠[]∧r.2.1.length≤4∧((r.1=1∧r.2.2.2.2=false∧∃(p o:Nat) (d:bL) (dv nv:Int),(p≤6∧o < 256)∧jd p o=some d∧d.1=1∧d.2.2.2.1=false∧r.2.2.1=d.2.1∧r.2.2.2.1=eO (kQ d) (l8 d) (opsL d.2.2.2.2) dv nv∧aku d (eO (kQ d) (l8 d) (opsL d.2.2.2.2) dv nv)∧r.2.1.length=FB p d)∨(r.1≠1∨r.2.2.2.2=true))
theorem Wd {l:List UInt8}(hl:l≠[]):TK (dec l):=by
 have hd:=jR hl
 have hne:(dec l).2.1≠[]:=fun e=>by
  rw[e] at hd;exact absurd hd.1 zx
 have hp:=Jw hl;obtain⟨p,nW⟩:∃p,(l7 l).1=p:=⟨_,rfl⟩;obtain⟨a,haa⟩:∃a,(l7 l).2=a:=⟨_,rfl⟩;rw[nW,haa] at hp;have hpl:=mo p
 have cut:dec l=(4,l,[],[],false)→l.length≤4→TK (dec l):=fun h h4=>by
  refine⟨hne,by rw[h];exact h4,.inr (.inl (by rw[h];show (4:Nat)≠1;decide))⟩
 have ap:=hp.ap
 cases ho:l[a]? with
 |none=>
  have hge:l.length≤a:=yI.1 ho;exact cut (by unfold dec;rw[haa,ho]) (by split at ap<;>omega)
 |some o=>
  obtain⟨d,hd2⟩:=tT (p:=p) (o:=o.toNat) (by have:=hp.p6;omega) o.toNat_lt
  have hkd:=dL JQ hd2;have hlt:a < l.length:=(zf.1 ho).1
  have hde:dec l=FX p a d l:=by
   unfold dec;rw[haa,ho,nW];simp only[hd2]
  have hex:gV d.2.2.1 jQ=true:=(eF hd2).2.2.1
  have hz2:oG d.2.2.1≤2:=by
   rcases gM hex with h|h|h|h|h|h<;>rw[h]<;>decide
  have agR:d.1=1→∀dv nv,dec l=(1,l.take (FB p d),d.2.1,eO (kQ d) (l8 d) (opsL d.2.2.2.2) dv nv,d.2.2.2.1)→((BU d.2.2.1).1≤dv∧dv≤(BU d.2.2.1).2)→((Dp d.2.2.1).1≤nv∧nv≤(Dp d.2.2.1).2)→FB p d≤4→FB p d≤l.length→TK (dec l):=fun hk dv nv he h1 h2 h4 h5=>by
   have hF:=jk hd2 hk;refine⟨hne,by rw[he];show (l.take (FB p d)).length≤4;rw[zJ];omega,?_⟩
   rw[he]
   cases hal:d.2.2.2.1 with
   |true=>exact .inr (.inr rfl)
   |false=>exact .inl ⟨rfl,rfl,p,o.toNat,d,dv,nv,⟨hp.p6,o.toNat_lt⟩,hd2,hk,hal,rfl,rfl,aaH hd2 hk hal (Ac hF.rd h1.1 h1.2) (Ac hF.rn h2.1 h2.2),by show (l.take (FB p d)).length=_;rw[zJ];omega⟩
  unfold aen at hkd;unfold FX at hde;split at hkd
  ·rename_i hk;rw[hk] at hde;simp only at hde;refine⟨hne,by rw[hde];show (l.take 1).length≤4;rw[zJ];omega,.inr (.inl (by rw[hde];show (2:Nat)≠1;decide))⟩
  ·rename_i hk;rw[hk] at hde;simp only at hde;by_cases h5:5≤p
   ·rw[zW h5] at ap hde;unfold ae3 at hkd;rw[yF h5] at hkd;have qZ:=bJ (show gH d.2.2.1 [100]=true from hkd)
    have hp2:(aO p).length=2:=by
     have:p=5∨p=6:=by have:=hp.p6;omega
     rcases this with rfl|rfl<;>rfl
    rcases AU hex l 2 zy with⟨dv,nv,h1',h2',h3',h4',h5'⟩|⟨h1',h2'⟩
    ·rw[h1'] at hde
     have hz:FB p d=4:=by
      unfold FB;rw[qZ];have:p=5∨p=6:=by have:=hp.p6;omega
      rcases this with rfl|rfl<;>rfl
     exact agR hk dv nv hde h3' h4' zy zy
    ·rw[qZ] at h2';have hN:(bs l).length=l.length:=aQ l;rcases h2' with⟨h,_⟩|⟨h,_⟩|⟨_,_,h⟩
     ·omega
     ·cases h
     ·exact h.elim
   ·rw[za h5] at ap hde
    have hl1:(aO p).length≤1:=by
     have nW:p=0∨p=1∨p=2∨p=3∨p=4:=zy;rcases nW with rfl|rfl|rfl|rfl|rfl<;>decide
    have hz:FB p d=a+1+oG d.2.2.1:=by
     unfold FB;rw[ap];have nW:p=0∨p=1∨p=2∨p=3∨p=4:=zy;rcases nW with rfl|rfl|rfl|rfl|rfl<;>rfl
    rcases AU hex l (a+1) zy with⟨dv,nv,h1',h2',h3',h4',h5'⟩|⟨h1',h2'⟩
    ·rw[h1'] at hde;exact agR hk dv nv hde h3' h4' zy zy
    ·rw[h1'] at hde;have hN:(bs l).length=l.length:=aQ l;refine cut hde ?_;rcases gM hex with h|h|h|h|h|h
     all_goals
      rw[h] at h2'
     ·exact h2'.elim
     all_goals
      rcases h2' with⟨q,_⟩|⟨_,q,_⟩|⟨_,_,q⟩
      ·omega
      ·omega
      ·first
        |exact q.elim
        |(rcases q with⟨q,_⟩|⟨_,q,_⟩|⟨_,_,q⟩
          ·omega
          ·omega
          ·exact q.elim)
  ·rename_i hk;simp only[Bool.or_eq_true,Bool.and_eq_true] at hkd;obtain⟨n1,n2⟩:=hp.no o ho;rcases hkd with⟨h0,h|h|h|h⟩|⟨h0,h⟩
   ·exact absurd (iC h zx) (n1 ((beq_iff _ _).1 h0)).1
   ·exact absurd (iC h zx) (n1 ((beq_iff _ _).1 h0)).2.1
   ·exact absurd (iC h zx) (n1 ((beq_iff _ _).1 h0)).2.2.1
   ·exact absurd (iC h zx) (n1 ((beq_iff _ _).1 h0)).2.2.2
   ·exact absurd (iC h zx) (n2 (h0.imp (fun h=>(beq_iff _ _).1 h) fun h=>(beq_iff _ _).1 h))
  ·rename_i hk;rw[hk] at hde;simp only at hde;refine⟨hne,by rw[hde];show (l.take 2).length≤4;rw[zJ];omega,.inr (.inl (by rw[hde];show (3:Nat)≠1;decide))⟩
  ·cases hkd
theorem pz:∀(n:Nat) (l:List UInt8),l.length≤n→∀r∈items l,TK r
 |_,[],_,r,hr=>by rw[qE] at hr;cases hr
 |0,_::_,h,_,_=>absurd h zw
 |n+1,x::l,h,r,hr=>by
  have hd:=jR (l:=x::l) zw;rw[jh zw] at hr;rcases zQ.1 hr with rfl|hr
  ·exact Wd zw
  ·exact pz n _ (by rw[zH];omega) r hr
def iD (o:aG):Nat×Nat×Bool:=(o.1.toNat,o.2.1.toNat,match o.1 with
 |5=>decide (o.2.2 < 0)
 |10=>decide (o.2.2+2 < 0)
 |_=>false)
theorem Sw:∀{l m:WH},Zc l m=true→l=m
 |[],[],_=>rfl
 |[],_::_,h=>by cases h
 |_::_,[],h=>by cases h
 |(a,b,c)::l,(a',b',c')::m,h=>by
  unfold Zc at h;simp only[Bool.and_eq_true] at h;obtain⟨h1,h2,h3,h4⟩:=h;rw[show a=a' from (beq_iff _ _).1 h1,show b=b' from (beq_iff _ _).1 h2,show c=c' from eq_of_beq h3,Sw h4]
theorem Na {x:Ri}:∀{l:List Ri},aed x l=true→x∈l
 |[],h=>by cases h
 |y::l,h=>by
  unfold aed at h
  cases hq:gH y.1 x.1 && (Zc y.2.1 x.2.1 && Nat.beq y.2.2 x.2.2) with
  |true=>
   simp only[Bool.and_eq_true] at hq;obtain⟨h1,h2,h3⟩:=hq
   have:x=y:=by
    obtain⟨a,b,c⟩:=x;obtain⟨a',b',c'⟩:=y;rw[show a'=a from bJ h1,show b'=b from Sw h2,show c'=c from (beq_iff _ _).1 h3]
   rw[this];exact zb
  |false=>
   rw[hq] at h;exact ze _ (Na h)
theorem Zq {x:Ri}{p:Nat}(h:x∈aiF p):x∈lT:=by
 unfold aiF at h
 cases hq:iw aiE.1 p with
 |none=>rw[hq] at h;cases h
 |some l=>
  rw[hq] at h;exact List.mem_flatten.2 ⟨l,(qy hq).2,h⟩
theorem XL:∀{cs:List Nat} {m:List aG},m.map (fun o=>(o.1,o.2.1))=(opsL cs).map (fun o=>(o.1,o.2.1))→m.map iD∈ahp cs
 |k::r::n::cs,[],h=>by cases h
 |k::r::n::cs,o::m,h=>by
  injection h with h1 h2
  have ih:=XL (cs:=cs) (m:=m) h2;obtain⟨k',r',z⟩:=o;obtain rfl:k'=(k:Int):=yV Prod.fst h1;obtain rfl:r'=(r:Int):=yV Prod.snd h1;refine wO.2 ⟨m.map iD,ih,?_⟩
  cases hq:Nat.beq k 5 || Nat.beq k 10 with
  |true=>
   rw[cond_true];have e:iD ((k:Int),(r:Int),z)=(k,r,(iD ((k:Int),(r:Int),z)).2.2):=by unfold iD;simp only[Int.toNat_natCast]
   rw[zO,e]
   cases (iD ((k:Int),(r:Int),z)).2.2
   ·exact zb
   ·exact ze _ zb
  |false=>
   rw[cond_false]
   have e:iD ((k:Int),(r:Int),z)=(k,r,false):=by
    unfold iD;simp only[Int.toNat_natCast];split
    ·rename_i e;obtain rfl:k=5:=zy
     cases hq
    ·rename_i e;obtain rfl:k=10:=zy
     cases hq
    ·rfl
   rw[zO,e];exact zR.2 rfl
 |[],[],_=>zR.2 rfl
 |[_],[],_=>zR.2 rfl
 |[_,_],[],_=>zR.2 rfl
 |[],_::_,h=>by cases h
 |[_],_::_,h=>by cases h
 |[_,_],_::_,h=>by cases h
theorem Tg {p o:Nat}{d:bL}(hd:jd p o=some d)(hk:d.1=1)(hal:d.2.2.2.1=false)(dv nv:Int):(d.2.1,(eO (kQ d) (l8 d) (opsL d.2.2.2.2) dv nv).map iD,FB p d)∈lT:=by
 refine Zq (p:=p) (Na (zY.1 (dL Zr hd) _ ?_));unfold Zn;rw[hk,hal];refine zX.2 ⟨_,XL (xR fun k=>?_),rfl⟩
 rw[yh,yh,mP,Option.map_map];rfl
theorem IB:∀l:List aG,all2 (l.map iD) l=true
 |[]=>rfl
 |o::l=>by
  show (Wx o.1.toNat o.2.1.toNat o.1.toNat o.2.1.toNat && all2 (l.map iD) l)=true;rw[IB l,Wx,Nat.beq_refl,Nat.beq_refl];rfl
theorem ae6 {p o:Nat}{d:bL}(hd:jd p o=some d)(hk:d.1=1)(hal:d.2.2.2.1=false)(dv nv:Int):inT d.2.1 (eO (kQ d) (l8 d) (opsL d.2.2.2.2) dv nv)=true:=
 xY.2 ⟨_,Tg hd hk hal dv nv,by rw[uG,IB];rfl⟩
def NlF (c:UInt8):Prop:=(Ap c=true∨Cu c=true∨kS c=true∨iO c=true∨c∈jM)→c≠10
theorem jw (c:UInt8):NlF c:=EZ (P:=NlF) (by unfold NlF;decide+kernel) c
theorem al7 {p:Pc}{m:List UInt8}(h:F8 p m):∀c∈p.1++pT p,c≠10:=fun c hc=>by
 obtain⟨hb,h⟩:=h;rcases zA.1 hc with hc|hc
 ·exact jw c (.inl (hb c hc))
 ·unfold pT at hc;rcases h with⟨h1,_,⟨a,r,h2,h3,h4⟩,_⟩|⟨h1,_,h2⟩|⟨h1,_,h2,_⟩|⟨h1,_,a,h2,h3,_⟩
  ·rw[za zy,h2] at hc;rcases zQ.1 hc with rfl|hc
   ·exact jw _ (.inr (.inl h3))
   ·exact jw _ (.inr (.inr (.inr (.inl (h4 _ hc)))))
  ·rw[za zy,h2] at hc;simp at hc;rcases hc with rfl|rfl|rfl<;>decide
  ·rw[zW h1] at hc;obtain⟨a,r,e1,e2,e3⟩:=kY _ h2;rw[e1] at hc;rcases zQ.1 hc with rfl|hc
   ·exact jw _ (.inr (.inr (.inl e2)))
   ·exact jw _ (.inr (.inr (.inr (.inl (e3 _ hc)))))
  ·rw[za zy,h2] at hc;simp at hc;subst hc;exact jw _ (.inr (.inr (.inr (.inr h3))))
theorem Yp:∀{l:List Pc},OL l→∀c∈oF l,c≠10
 |[],_,c,hc=>by cases hc
 |p::l,h,c,hc=>by
  unfold oF at hc;rcases zA.1 hc with hc|hc
  ·exact al7 h.1 c hc
  ·exact Yp h.2 c hc
theorem ah5:allM (fun nm=>pwB (l5 nm)) fe=true:=by kernel_rfl
theorem agq {r:Rj}(h:TK r):pwB (l5 (Ed r).1)=true∧∀o∈(Ed r).2,OpC o:=by
 unfold Ed;obtain⟨_,_,⟨h1,h2,p,o,d,dv,nv,_,hd,hk,hal,e1,e2,hE,_⟩|h⟩:=h
 ·rw[zW ⟨h1,h2⟩];dsimp only;rw[e1,e2];exact⟨aU ah5 hE.nm,hE.ok⟩
 ·rw[za (by rcases h with h|h<;>simp[h])]
  exact⟨show pwB (l5 [68,69,70,66])=true by decide,aaU _⟩
theorem amA {r:Rj}(h:TK r):∀c∈Ec r,c≠10:=fun c hc=>by
 obtain⟨h1,h2⟩:=agq h;have h3:=ZI h1 h2;exact Yp h3.2 c (by rw[h3.1];exact ze _ hc)
theorem GA {x:jY}(hx:TK x.1)(w:World)(hG:eT w){p:Nat→Prop}(h:ItP p w x):
 Calls Tryz.prog 7 #[.agg (jX x).toArray] w fun e w'=>e= .returned (.string ⟨(Ec x.1).toArray⟩)∧Below w.heap.size w w':=by
 obtain⟨⟨k1,raw,nm,ops,al⟩,A1,c1,A2,c2⟩:=x;obtain⟨hr1,hr2⟩:=h;obtain⟨hne,h4,hx⟩:=hx;rcases hx with⟨h1,h2,p,o,d,dv,nv,⟨hp6,ho8⟩,hd,hk,hal,e1,e2,hE,_⟩|hx
 ·have h1:k1=1:=h1;have h2:al=false:=h2;have E1:nm=d.2.1:=e1;have E2:ops=eO (kQ d) (l8 d) (opsL d.2.2.2.2) dv nv:=e2;clear e1 e2;subst h1 h2;have hit:Ec (1,raw,nm,ops,false)=shX nm ops:=by unfold Ec Ed;rw[zW ⟨rfl,rfl⟩]
  rw[hit];have hN:nm∈fe:=by rw[E1];exact hE.nm
  have hE':aku d ops:=by rw[E2];exact hE
  have hB:∀o∈ops,B64 o:=fun o ho=>LF (hE'.ok o ho).1
  have hck:pR (ag nm) ops=0:=by
   unfold pR;rw[za,za (by have:=hE'.l3;omega),za]
   ·intro h;rw[List.all_eq_false] at h;obtain⟨o,ho,hv⟩:=h;exact hv (hE'.ok o ho).1
   ·intro h;unfold jI at h;rw[List.any_eq_false] at h;exact h nm hN (zC rfl)
  have hin:inT nm ops=true:=by rw[E1,E2];exact ae6 hd hk hal dv nv
  have hC:ag3 w nm A2 ops.length c2 ops:=fun W hb=>EX (abe hin fun o ho=>hE'.ok o ho) A2 ops.length c2 W _ rfl hE'.l3 (hG.after hb) (hr2.after hb)
  have hF:uX w (ag nm) A2 ops.length c2 true:=fun W hb=>by
   refine (Ie nm hN A2 ops ops.length c2 W _ (hG.after hb) rfl hE'.l3 hB (hr2.after hb) hck fun V hV=>hC V (hb.trans (hV.mono hb.size))).mono ?_
   rintro e w' ⟨code,E,rfl,_,hf,hx,hb'⟩;have hfit:kI (ag nm) ops d=true:=by rw[E1];exact hE'.fit
   obtain rfl:code=0:=by
    rcases hf with⟨rfl,_⟩|⟨_,_,hf⟩|⟨_,hf⟩
    ·rfl
    ·rw[hf p o d hp6 ho8 hd] at hfit
     cases hfit
    ·have:=kH hfit;rw[hf p o d hp6 ho8 hd] at this
     cases this
   obtain⟨⟨⟨p',o'⟩,d',A9,c9⟩,rfl,_⟩:=hx rfl;exact⟨p',o',ag d'.2.1,ag d'.2.2.1,A9,d'.2.2.2.2.length / 3,c9,d'.2.2.2.1,0,rfl,rfl,hb'⟩
  exact Px A1 A2 raw.length c1 ops.length c2 (ag nm) _ w fun W hb=>Py nm A2 ops.length c2 ops W (hF.after hb) (fun V hV=>hC V (hb.trans (hV.mono hb.size))) (fun o ho=>(hE'.ok o ho).1) hE'.l3 (by rw[aC];have:=JA hN;omega) (hG.after hb)
 ·have hit:Ec (k1,raw,nm,ops,al)=daX raw:=by
   unfold Ec Ed
   have hn:¬(k1=1∧al=false):=by
    rcases hx with h|h
    ·intro q;exact h q.1
    ·intro q;have h3:al=true:=h;have h4:al=false:=q.2;rw[h3] at h4;cases h4
   rw[za hn];exact (agO hne).symm
  rw[hit];refine Pw (k1:Int) A1 A2 raw.length c1 ops.length c2 (ag nm) _ al w (hx.imp (fun h e=>h (by have h2:(k1:Int)=1:=e;show k1=1;omega)) id) fun W hb=>aaT A1 raw raw.length c1 W _ rfl hne ?_ (hG.after hb) (hr1.after hb)
  have:raw.length≤4:=h4;omega
def kt (p:Pc):Nat×List UInt8:=(p.2.1,if p.2.1=2 then [] else p.2.2.1)
def kx (x:Nat×List Nat):Nat×List UInt8:=(x.1,l5 x.2)
theorem agk (n:Int):(Uz n).map kt=[(4,[cond (decide (n < 0)) 45 43]),(2,[])]:=by
 unfold Uz;by_cases h:n < 0
 ·rw[zW h,zC h];rfl
 ·rw[za h,zN h];rfl
theorem agj (b:Bool):l5 [cond b 45 43]=[cond b 45 43]:=by cases b<;>rfl
theorem agl {o:aG}(h:OpC o):(tQ o).map kt=(C9 (iD o).1 (iD o).2.1 (iD o).2.2).map kx:=by
 obtain⟨k,r,hk,hr,e1,e2,_⟩:=qg h.1;obtain⟨k',r',n⟩:=o;have e1:k'=(k:Int):=e1;have e2:r'=(r:Int):=e2;subst e1 e2;have hkk:k=0∨k=1∨k=2∨k=3∨k=4∨k=5∨k=6∨k=7∨k=8∨k=9∨k=10:=zy;rcases hkk with rfl|rfl|rfl|rfl|rfl|rfl|rfl|rfl|rfl|rfl|rfl
 case inr.inr.inr.inr.inr.inl=>
  show (pg 40::pw (l5 (ky 5 r))::(Uz n++[pg 41])).map kt=_;rw[zO,zO,yu,agk];show _=(C9 5 r (decide (n < 0))).map kx;simp only[C9,List.map_cons,List.map_nil,kx,agj];rfl
 case inr.inr.inr.inr.inr.inr.inr.inr.inr.inr=>
  show (pg 36::Uz (n+2)).map kt=_;rw[zO,agk];show _=(C9 10 r (decide (n+2 < 0))).map kx;simp only[C9,List.map_cons,List.map_nil,kx,agj];rfl
 all_goals rfl
theorem agm:∀l:List aG,(∀o∈l,OpC o)→(Qr (l.map tQ)).map kt=(jnT ((l.map iD).map fun x=>C9 x.1 x.2.1 x.2.2)).map kx
 |[],_=>rfl
 |[a],h=>agl (h a zb)
 |a::b::l,h=>by
  have ih:=agm (b::l) fun o ho=>h o (ze _ ho)
  have h1:=agl (h a zb);show (tQ a++pg 44::Qr ((b::l).map tQ)).map kt=(C9 (iD a).1 (iD a).2.1 (iD a).2.2++(4,[44])::jnT (((b::l).map iD).map fun x=>C9 x.1 x.2.1 x.2.2)).map kx
  rw[yu,zO,h1,ih,yu,zO];rfl
theorem amv (b:List UInt8)(l:List Pc):(blP b l).map kt=l.map kt:=by
 cases l<;>rfl
theorem amu {nm:List Nat}{l:List aG}(hl:∀o∈l,OpC o):(Qw nm l).map kt=(uk nm (l.map iD)).map kx:=by
 show ((([9],1,l5 nm,0):Pc)::blP [32] (Qr (l.map tQ))).map kt=((1,nm)::jnT ((l.map iD).map fun x=>C9 x.1 x.2.1 x.2.2)).map kx
 rw[zO,zO,amv,agm l hl];rfl
theorem Zy:∀(ps:List Pc) (k:Nat),(R6 k ps).map (fun t=>(t.kind,t.text))=ps.map kt++[(0,[])]
 |[],_=>rfl
 |p::ps,k=>by
  show (pK p _::R6 _ ps).map _=_;rw[zO,Zy ps];rfl
theorem RD {ρ:Env}:∀(T:List Tk) (sh:F6) (ν:Nat→Int×Int),T.map (fun t=>(t.kind,t.text))=sh.map kx→(∀i t,T[i]? =some t→ν i=((t.n:Int),(t.at_:Int)))→aH ρ (RF ν sh)=Gp T
 |[],[],_,_,_=>rfl
 |[],_::_,_,h,_=>by cases h
 |_::_,[],_,h,_=>by cases h
 |t::T,x::sh,ν,h,hν=>by
  rw[zO,zO] at h;injection h with h1 h2
  have ih:=RD (ρ:=ρ) T sh (fun i=>ν (i+1)) h2 fun i t hi=>hν (i+1) t hi
  have h0:=hν 0 t rfl;have hk:t.kind=x.1:=yV Prod.fst h1;have ht:t.text=l5 x.2:=yV Prod.snd h1;unfold RF Gp tkv;simp only[aH,cv,ih,h0,hk,ht];rfl
def nuK (T:List Tk)(i:Nat):Int×Int:=match T[i]? with
 |some t=>((t.n:Int),(t.at_:Int))
 |none=>(0,0)
theorem LQ {ρ:Env}{nm:List Nat}{l:List aG}(hl:∀o∈l,OpC o):aH ρ (RF (nuK (R6 0 (Qw nm l))) (uk nm (l.map iD)++[(0,[])]))=Gp (R6 0 (Qw nm l))∧(R6 0 (Qw nm l)).length=(uk nm (l.map iD)).length+1:=by
 have h:(R6 0 (Qw nm l)).map (fun t=>(t.kind,t.text))=(uk nm (l.map iD)++[(0,[])]).map kx:=by
  rw[Zy,amu hl,yu];rfl
 refine⟨RD _ _ _ h fun i t hi=>by unfold nuK;rw[hi],?_⟩
 have:=yV List.length h
 simpa using this
def ase (w0:World)(R sz:Nat)(op ar pa:Value)(w:World):Prop:=∀W,Below w0.heap.size w0 W→w.heap.size≤W.heap.size→(∀i,i < w.heap.size→i≠R→W.heap[i]? =w.heap[i]?)→Calls Tryz.prog 8 #[.agg #[.string ⟨#[]⟩,op,ar,pa]] W fun e w'=>e= .returned (.tuple #[.int .i64 (sz:Int),.bool true])∧Below W.heap.size W w'
def asf (sz:Nat)(op ar pa:Value)(w:World):Prop:=∀W,Below w.heap.size w W→Calls Tryz.prog 8 #[.agg #[.string ⟨#[]⟩,op,ar,pa]] W fun e w'=>e= .returned (.tuple #[.int .i64 (sz:Int),.bool true])∧Below W.heap.size W w'
theorem Zo {nm:List Nat}{l:List aG}{sz:Nat}(hB:∀ν,jA ν (nm,l.map iD,sz)=true)(hl:∀o∈l,OpC o){w0 W:World}(hG:eT w0)(hb:Below w0.heap.size w0 W){g c n pb:Nat}(hn:n=(R6 0 (Qw nm l)).length)
 (hrow:W.ownsRow w0.heap.size 106 4 (.slice (some ⟨g,0,none⟩) n c) n (Gp (R6 0 (Qw nm l)))) (hp:Bk W pb 62 [.slice (some ⟨g,0,none⟩) (n - 1) c,.string ⟨#[]⟩,.string ⟨#[]⟩,.slice none 0 0,.slice none 0 0]) (hp0:w0.heap.size≤pb) {R:Nat} (hR:R < W.heap.size) (hRg:R≠g) (hRp:R≠pb):
 Calls Tryz.prog 17 #[.pointer (some ⟨pb,0,none⟩)] W fun e w'=>e= .returned (.int .i64 0)∧Below w0.heap.size w0 w'∧(∀i,i < W.heap.size→i≠pb→i≠g→w'.heap[i]? =W.heap[i]?)∧∃u op ar pa T,Bk w' pb T [u,.string ⟨#[]⟩,op,ar,pa]∧(op.oneCell'=true∧ar.oneCell'=true∧pa.oneCell'=true)∧ase w0 R sz op ar pa w':=by
 have h:=hB (nuK (R6 0 (Qw nm l)));obtain⟨e1,e2⟩:=LQ (ρ:=⟨fun b=>if b=0 then g else pb,fun _=>c,fun _=>(⟨0,0,none⟩,0)⟩) hl (nm:=nm)
 generalize nuK (R6 0 (Qw nm l))=ν at h e1;unfold jA at h;dsimp only at h;split at h
 case h_2=>cases h
 case h_1 nx bl md gl hrun=>
 split at h
 case h_2=>cases h
 case h_1 u op ar pa T hget=>
 rw[xk,xk,xk] at h;obtain⟨⟨o1,o2,o3⟩,h⟩:=h;split at h
 case h_2=>cases h
 case h_1 k nx2 bl2 gl2 hfix=>
 obtain rfl:=(beq_iff _ _).1 h
 have hgp:g≠pb:=fun e=>by
  subst e;rcases hrow.2 with⟨_,h0⟩|⟨g',cap,cur,hv,_,hh,_⟩
  ·omega
  ·injection hv with a1 a2 a3
   obtain rfl:g=g':=yV (fun x=>match x with|some (a:Addr)=>a.block|none=>0) a1
   have h4:W.heap[g]? =some (.cells _ 62 (0,0)):=hp;rw[hh] at h4;have:=zq h4;injection this with _ h5
   exact absurd h5 zx
 rcases hrow.2 with⟨_,h0⟩|⟨q,cap,cur,hv,hBq,hh,h1,h2,h3,h4⟩
 ·rw[hn,e2] at h0;omega
 obtain⟨rfl,rfl⟩:g=q∧c=cap:=by
  injection hv with a1 a2 a3
  injection a1 with a1
  injection a1 with a1
  exact⟨a1,a3⟩
 clear hv
 have h0g:∀b kk,au b (Zp ν nm (l.map iD)).bl=some kk→(b=0∧kk= .cells (RF ν (uk nm (l.map iD)++[(0,[])])) 106 (some 4))∨(b=1∧kk= .cells [.slice 0 0 0 (uk nm (l.map iD)).length none,.str [],.str [],.bT,.bT] 62 none):=fun b kk hb=>by
  by_cases hb0:b=0
  ·subst hb0;exact .inl ⟨rfl,(zq (hb.symm.trans (aA _ _ _)))⟩
  ·have hb:=hb.symm.trans (aD _ _ fun e=>hb0 e.symm)
   by_cases hb1:b=1
   ·subst hb1;exact .inr ⟨rfl,(zq (hb.trans (aA _ _ _)))⟩
   ·have:=hb.trans (aD _ _ fun e=>hb1 e.symm)
    cases this
 have hW:aJ w0 ⟨fun b=>if b=0 then g else pb,fun _=>c,fun _=>(⟨0,0,none⟩,0)⟩ (Zp ν nm (l.map iD)) W:=by
  refine⟨hb,fun b kk hb=>?_,fun b b' kk kk' h1 h2 he=>?_,fun b kk hb=>?_,by show [0,1].Nodup;decide,hG⟩
  ·rcases h0g b kk hb with⟨rfl,rfl⟩|⟨rfl,rfl⟩
   ·exact⟨by show 0 < 2;decide,Pf _ _ _,hBq,lt_of_heap hh⟩
   ·exact⟨by show 1 < 2;decide,⟨by show 0 < 2;decide,trivial,trivial,trivial,trivial,trivial⟩,hp0,lt_of_heap hp⟩
  ·rcases h0g b kk h1 with⟨rfl,_⟩|⟨rfl,_⟩<;>rcases h0g b' kk' h2 with⟨rfl,_⟩|⟨rfl,_⟩
   ·rfl
   ·exact absurd he hgp
   ·exact absurd he.symm hgp
   ·rfl
  ·rcases h0g b kk hb with⟨rfl,rfl⟩|⟨rfl,rfl⟩
   ·refine⟨n,cur,hh,h1,h2,h3,?_,?_⟩
    ·rw[I6,hn,e2,zL];rfl
    ·rw[h4,e1]
   ·have e3:n - 1=(uk nm (l.map iD)).length:=by rw[hn,e2];rfl
    rw[e3] at hp;exact hp
 obtain⟨_,_,q3⟩:=aT fB abK _ _ _ _ _ hrun;have hc:=q3 w0 _ W ⟨show 1 < 2 by decide,trivial⟩ hW
 have ea:(aH ⟨fun b=>if b=0 then g else pb,fun _=>c,fun _=>(⟨0,0,none⟩,0)⟩ [.ptr 1 0]).toArray=#[.pointer (some ⟨pb,0,none⟩)]:=by
  simp only[aH,cv];rfl
 rw[ea] at hc;refine hc.mono ?_;rintro e w' ⟨ρ',rfl,hP,_⟩;refine⟨rfl,hP.rep.below,fun i hi n1 n2=>hP.gr.block i hi ?_,?_⟩
 ·rintro ⟨b,_,hb2,rfl⟩;have hb2:b < 2:=hb2;by_cases hb0:b=0
  ·exact n2 (zW hb0)
  ·exact n1 (za hb0)
 have hgl:gl=bE:=hP.gl;subst hgl;have hr1:=hP.rep.rep 1 _ hget;have hpb:ρ'.blk 1=pb:=(hP.ext.blk 1 (by show 1 < 2;decide)).trans rfl
 have hok:=(hP.rep.ok 1 _ hget).2.1
 have hne:∀b k,au b bl=some k→ρ'.blk b≠R:=fun b k hb e=>by
  rcases zP b 2 with h2|h2
  ·have e2:=hP.ext.blk b (show b < 2 from h2)
   have e3:(if b=0 then g else pb)=R:=e2.symm.trans e
   split at e3
   ·exact hRg e3.symm
   ·exact hRp e3.symm
  ·obtain⟨b',_,_,e2⟩:=hP.fresh b h2 (hP.rep.ok b k hb).1 (by rw[e];exact hR)
   have e3:(if b'=0 then g else pb)=R:=e2.trans e
   split at e3
   ·exact hRg e3.symm
   ·exact hRp e3.symm
 refine⟨cv ρ' u,cv ρ' op,cv ρ' ar,cv ρ' pa,T,?_,⟨mE o1 _,mE o2 _,mE o3 _⟩,fun V hV1 hV2 hV3=>?_⟩
 ·show w'.heap[pb]? =_;rw[← hpb];exact hr1
 ·have hW2:aJ w0 ρ' ⟨nx,bl,[],bE⟩ V:=⟨hV1,fun b k hb=>by
   obtain⟨q1,q2,q3,q4⟩:=hP.rep.ok b k hb;exact⟨q1,q2,q3,zZ q4 hV2⟩,hP.rep.inj,fun b k hb=>(hP.rep.rep b k hb).heap (hV3 _ (hP.rep.ok b k hb).2.2.2 (hne b k hb)),hP.rep.ng,hP.rep.gl⟩
  obtain⟨_,_,q4⟩:=aT fB abK _ _ _ _ _ hfix;refine (show Calls Tryz.prog 8 #[.agg #[.string ⟨#[]⟩,cv ρ' op,cv ρ' ar,cv ρ' pa]] V _ from q4 w0 _ V ⟨⟨trivial,hok.2.2.1,hok.2.2.2.1,hok.2.2.2.2.1,trivial⟩,trivial⟩ hW2).mono ?_
  rintro e2 w2 ⟨dC,rfl,hP2,_⟩;exact⟨rfl,hP2.fZ rfl⟩
end
section
open Go.RowKit Go.Shelf Ex
theorem ae9:El Tryz.prog 227 3 (.int .i64 0) 1 8:=⟨Tryz.underlying227,zz,rfl,zx⟩
theorem Nq:∀{L:List jY} {k:Nat} {x:jY} (j:Nat) {u:Value},L[k]? =some x→(jX x)[j]? =some u→(iF L)[k * 5+j]? =some u
 |[],k,x,j,u,h,_=>by simp at h
 |y::L,0,x,j,u,h,hu=>by
  obtain rfl:=zq h;have hj:j < (jX y).length:=(zf.1 hu).1;show (jX y++iF L)[0 * 5+j]? =some u;rw[Nat.zero_mul,yD,xz hj];exact hu
 |y::L,k+1,x,j,u,h,hu=>by
  have h':L[k]? =some x:=by simpa using h
  have:=Nq j h' hu;show (jX y++iF L)[(k+1) * 5+j]? =some u;have hl:(jX y).length=5:=rfl;rw[yR zy,hl,show (k+1) * 5+j - 5=k * 5+j by omega]
  exact this
theorem Yu {W:World}{base n:Nat}{A:Option Addr}{c:Nat}{L:List jY}(h:W.ownsRow base 30 5 (.slice A n c) n (iF L))(hn:n=L.length){k:Nat}{x:jY}(hx:L[k]? =some x):∃g,A=some ⟨g,0,none⟩∧∀(j:Nat) (u:Value),(jX x)[j]? =some u→W.cell? ⟨g,k * 5+j,none⟩=some u:=by
 have hk:k < L.length:=(zf.1 hx).1;rcases h.2 with⟨_,h0⟩|⟨g,cap,cur,hv,_,hh,h1,_,h3,h4⟩
 ·omega
 ·injection hv with a1 a2 a3
  refine⟨g,a1,fun j u hu=>?_⟩
  have h5:=Nq j hx hu;rw[← h4,yj] at h5;split at h5
  ·simp only[World.cell?,hh]
   simpa using h5
  ·cases h5
def j3:List jY→Nat
 |[]=>0
 |x::xs=>x.1.2.1.length+j3 xs
theorem vF:∀(xs:List jY) (x:jY),j3 (xs++[x])=j3 xs+x.1.2.1.length
 |[],x=>by simp[j3]
 |y::xs,x=>by
  show y.1.2.1.length+j3 (xs++[x])=_;rw[vF xs x];show _=y.1.2.1.length+j3 xs+_;omega
theorem Gw {xs:List jY}{k:Nat}{x:jY}(h:xs[k]? =some x):xs.take (k+1)=xs.take k++[x]∧j3 (xs.take k)+x.1.2.1.length≤j3 xs:=by
 have h1:xs.take (k+1)=xs.take k++[x]:=by rw[xh,h];rfl
 refine⟨h1,?_⟩;rw[← vF,← h1]
 have h2:∀(a b:List jY),j3 a≤j3 (a++b):=fun a b=>by
  induction a with
  |nil=>exact zF _
  |cons y a ih=>show y.1.2.1.length+j3 a≤y.1.2.1.length+j3 (a++b);omega
 have:=h2 (xs.take (k+1)) (xs.drop (k+1));rwa [vW] at this
def U1 (xs:List jY):List Value:=(List.range xs.length).map fun k=>.int .i64 (j3 (xs.take k):Nat)
def P9 (xs:List jY)(k:Nat):List Value:=(List.range k).map fun k=>.int .i64 (j3 (xs.take k):Nat)
theorem U2 (xs:List jY)(k:Nat):P9 xs (k+1)=P9 xs k++[.int .i64 (j3 (xs.take k):Nat)]:=by
 simp[P9,List.range_succ]
def arG (xs:List jY)(w:World)(e:Ending)(w':World):Prop:=∃v,e= .returned v∧w'.ownsRow w.heap.size 3 1 v xs.length (U1 xs)∧Below w.heap.size w w'
theorem MU (A:Option Addr)(xs:List jY)(n c:Nat)(w:World)(base:Nat)(hn:n=xs.length)(h:w.ownsRow base 30 5 (.slice A n c) n (iF xs))(_hs:j3 xs≤1000)(_hm:xs.length≤1000):
 Calls Tryz.prog 124 #[.slice A n c] w (arG xs w):=by
 have HO:=zo h;have HN:=zo hn;have hn2:(n:Int)≤1000:=zy;clear h hn;go_enter Tryz.func124,Tryz.ntmps124;go_wp2
 go_loopw [3,4,9] (fun u a i wr=>∃k:Nat,i= .int .i64 (k:Int)∧k≤n∧a= .int .i64 (j3 (xs.take k):Nat)∧Hid (wr.ownsRow w.heap.size 3 1 u k (P9 xs k))∧Hid (Below w.heap.size w wr)) (fun _ _ i _=>n - (intOf i).toNat)
 case atStart=>exact⟨0,rfl,zF _,rfl,yx _ _ _ _,zh _ _⟩
 case round=>
  obtain⟨k,rfl,hk,rfl,ho,hb⟩:=hrel;by_cases hlt:k < n
  ·obtain⟨x,hx⟩:∃x,xs[k]? =some x:=⟨_,zg (by have:=HN.out;omega)⟩
   obtain⟨g,rfl,hcell⟩:=Yu (own_below HO.out hb.out (zn _)) HN.out hx;obtain⟨h1,h2⟩:=Gw hx;have HT:=zo h1;have hok:=U2 xs k;obtain⟨z,hz⟩:∃z,j3 (xs.take k)=z:=⟨_,rfl⟩;rw[hz] at hok h2 ⊢;have HZ:=zo (zM hok hz);obtain⟨⟨k1,raw,nm,ops,al⟩,A1,c1,A2,c2⟩:=x;have q0:wr.cell? ⟨g,k * 5,none⟩=some (.int .i64 (k1:Int)):=hcell 0 _ rfl;have q1:=hcell 1 _ rfl;have q2:=hcell 2 _ rfl;have q3:=hcell 3 _ rfl;have q4:=hcell 4 _ rfl
   have hz1:(z:Int)+(raw.length:Int)≤1000:=by
    have:z+raw.length≤j3 xs:=h2;omega
   have HL:=zo hlt;obtain⟨A3,c3,rfl,_⟩:=bg ho.out
   have hrd:Rd ((wr.alloc (.cells #[.int .i64 (k1:Int),.slice A1 raw.length c1,.string (ag nm),.slice A2 ops.length c2,.bool al] 30)).alloc (.cells #[.int .i64 (z:Int)] 3)) (fun _=>True) (some ⟨wr.heap.size+1,0,none⟩) [.int .i64 (z:Int)]:=by
    have:=Rd.new (wr.alloc (.cells #[.int .i64 (k1:Int),.slice A1 raw.length c1,.string (ag nm),.slice A2 ops.length c2,.bool al] 30)) #[.int .i64 (z:Int)] 3 (p:=fun _=>True) trivial
    rwa [zU] at this
   clear hx h1 h2 hok hz hcell
   go_wp2_with (at_builtin;refine bu ae9 rfl (.tmp 13) (.tmp 15) rfl w.heap.size _ k (P9 xs k) (fun _=>True) _ 1 1 [.int .i64 (z:Int)] rfl rfl ((ho.alloc _).alloc _) rfl hrd (by simp[Value.oneCell']) (by simp only[maxLen];omega) zy (by simp;have:=hb.size;omega) ?_;intro v2 w2 ho2 hg2 NB hz2;have uW:=zo ho2;have HB2:=zo (((hb.alloc hb.size (.cells #[.int .i64 (k1:Int),.slice A1 raw.length c1,.string (ag nm),.slice A2 ops.length c2,.bool al] 30)).alloc (by simp;have:=hb.size;omega) (.cells #[.int .i64 (z:Int)] 3)).grown hg2 (by simp;have:=hb.size;omega) (fun q hq=>by have:=(ho.lt q hq).1;omega));have y1:w2.cell? ⟨wr.heap.size,1,none⟩=some (.slice A1 raw.length c1):=((hg2.block wr.heap.size zu (fun e=>by have:=(ho.lt _ e.symm).2;omega)).trans (show (((wr.alloc _).alloc _).heap[wr.heap.size]? =_) from ((Bk.new wr 30 [.int .i64 (k1:Int),.slice A1 raw.length c1,.string (ag nm),.slice A2 ops.length c2,.bool al]).alloc _))) |> fun h=>Bk.cell (T:=30) h 1 rfl;clear ho2 hg2 NB hz2)
   go_roundw
   case rel=>
    refine⟨k+1,by go_num,HL.out,?_,?_,HB2.out⟩
    ·rw[HT.out,vF,HZ.2];simp
    ·rw[HZ.1];exact uW.out
   case measure=>simp only[intOf];omega
  ·obtain rfl:k=n:=zy;go_wp2;go_ret;exact⟨_,rfl,by have h1:=ho.out;rw[show P9 xs k=U1 xs by unfold U1 P9;rw[HN.out]] at h1;rw[← HN.out];exact h1,hb.out⟩
end
section
open Go.RowKit Go.Shelf Ex
attribute [local go_sem] wZ
def Own (b:Nat)(W:World)(i:Nat):Prop:=i=b∨∃v,W.cell? ⟨b,1,none⟩=some v∧v.ownBlock=some i
def WI (b:Nat)(W W':World):Prop:=W.heap.size≤W'.heap.size∧(∀i o,W.heap[i]? =some o→o.isCells=true→¬Own b W i→W'.heap[i]? =some o)∧∀i,Own b W' i→Own b W i∨W.heap.size≤i
theorem WI.trans {b:Nat}{X Y Z:World}(h:WI b X Y)(k:WI b Y Z):WI b X Z:=by
 refine⟨zV h.1 k.1,fun i o ho hc hn=>k.2.1 i o (h.2.1 i o ho hc hn) hc fun hy=>?_,fun i hi=>?_⟩
 ·rcases h.2.2 i hy with h1|h1
  ·exact hn h1
  ·have:=dR ho;omega
 ·rcases k.2.2 i hi with h1|h1
  ·exact h.2.2 i h1
  ·exact .inr (zV h.1 h1)
theorem Own.below {b:Nat}{W W':World}(hb:Below W.heap.size W W')(hlt:b < W.heap.size){i:Nat}:Own b W' i↔Own b W i:=by
 have h1:W'.cell? ⟨b,1,none⟩=W.cell? ⟨b,1,none⟩:=yz (hb.block b hlt);unfold Own;rw[h1]
theorem WI.below {b:Nat}{W W':World}(hb:Below W.heap.size W W')(hlt:b < W.heap.size):WI b W W':=⟨hb.size,fun i _ ho _ _=>(hb.block i (dR ho)).trans ho,fun _ hi=>.inl ((Own.below hb hlt).1 hi)⟩
theorem Mq {W W':World}{p:Nat→Prop}{A:Option Addr}{V:List Value}(h:Rd W p A V)(hk:∀i o,p i→W.heap[i]? =some o→o.isCells=true→W'.heap[i]? =some o):Rd W' p A V:=fun hx=>by
 obtain⟨ad,e,hp,hc⟩:=h hx;refine⟨ad,e,hp,fun j u hu=>?_⟩
 obtain⟨cur,T,f,h1⟩:=EW (hc j u hu);have h2:(ad.add j).block=ad.block:=by unfold Addr.add;split<;>rfl
 rw[yz (w:=W) ((hk _ _ (by rw[h2];exact hp) h1 rfl).trans h1.symm)]
 exact hc j u hu
theorem GX {W W':World}{base n size:Nat}{e:TypeId}{v:Value}{xs:List Value}(h:W.ownsRow base e size v n xs)(hk:∀i o,base≤i→W.heap[i]? =some o→o.isCells=true→W'.heap[i]? =some o):W'.ownsRow base e size v n xs:=by
 refine⟨h.1,h.2.imp id ?_⟩;rintro ⟨g,cap,cur,p1,p2,p3,p4⟩;exact⟨g,cap,cur,p1,p2,hk g _ p2 p3 rfl,p4⟩
theorem FZ (a:Int)(A:Option Addr)(n c:Nat)(w:World):
 Calls Tryz.prog 64 #[.agg #[.int .i64 a,.slice A n c]] w fun e w'=>e= .returned (.func (.func 122) #[] #[.pointer (some ⟨w.heap.size,0,none⟩)])∧w.alloc (.cells #[.int .i64 a,.slice A n c] 145)=w':=by
 go_enter Tryz.func64,Tryz.ntmps64;go_wp2;go_ret;exact⟨rfl,rfl⟩
theorem rD:∀(n:Nat) (l:List UInt8) (xs:List jY),l.length≤n→xs.map (·.1)=items l→j3 xs=l.length
 |_,[],xs,_,h=>by
  rw[qE] at h;rw[List.map_eq_nil_iff.1 h];rfl
 |0,_::_,_,h,_=>absurd h zw
 |n+1,y::l,xs,hn,h=>by
  have hd:=jR (l:=y::l) zw;rw[jh zw] at h
  cases xs with
  |nil=>cases h
  |cons x xs=>
   rw[zO] at h;injection h with h1 h2
   have h3:x.1=dec (y::l):=h1;have ih:=rD n ((y::l).drop (dec (y::l)).2.1.length) xs (by rw[zH];omega) h2
   show x.1.2.1.length+j3 xs=_;rw[ih,h3,zH];omega
theorem ah4 {W:World}{base n c:Nat}{T:TypeId}{A:Option Addr}{V:List Value}(h:W.ownsRow base T 1 (.slice A n c) n V){k:Nat}{u:Value}(hu:V[k]? =some u):∃g,A=some ⟨g,0,none⟩∧W.cell? ⟨g,k,none⟩=some u:=by
 rcases h.2 with⟨_,h0⟩|⟨g,cap,cur,hv,_,hh,_,_,_,h4⟩
 ·have h1:=(zf.1 hu).1;have h2:=h.1;omega
 ·injection hv with a1 a2 a3
  refine⟨g,a1,?_⟩;rw[← h4,yj] at hu;split at hu
  ·simp only[World.cell?,hh]
   simpa using hu
  ·cases hu
theorem TP {e:Ending}{P Q:Prop}(h:(e= .returned (.bool true)∧P)∨(e= .returned (.bool false)∧Q)):∃bb,e= .returned (.bool bb)∧((bb=true∧P)∨(bb=false∧Q)):=by
 rcases h with⟨h1,h2⟩|⟨h1,h2⟩
 ·exact⟨true,h1,.inl ⟨rfl,h2⟩⟩
 ·exact⟨false,h1,.inr ⟨rfl,h2⟩⟩
structure AdW (b B b1:Nat)(W2 W:World):Prop where
 same:∀i o,(i=B∨b1≤i)→W2.heap[i]? =some o→o.isCells=true→W.heap[i]? =some o
 own:∀i,i < W2.heap.size→(i=B∨b1≤i)→¬Own b W i
 size:W2.heap.size≤W.heap.size
theorem AdW.step {b B b1:Nat}{W2 W W':World}(h:AdW b B b1 W2 W)(hk:WI b W W'):AdW b B b1 W2 W':=by
 refine⟨fun i o hi ho hc=>hk.2.1 i o (h.same i o hi ho hc) hc (h.own i (dR ho) hi),fun i hi hN hO=>?_,zV h.size hk.1⟩
 rcases hk.2.2 i hO with h1|h1
 ·exact h.own i hi hN h1
 ·have:=h.size;omega
theorem abC {b B c n:Nat}{q:Nat→Prop}{A:Option Addr}{l:List UInt8}(_hn:1≤n)(hm:l.length≤1000)(hc:l.length≤c)(w:World)(hG:eT w)(hr:Rd w q A (bs l))(hB:Bk w B 145 [.int .i64 0,.slice A l.length c])(hb:b < w.heap.size)(hOw:∀i,Own b w i→i < w.heap.size)(hBO:¬Own b w B):
 afB Fence.wide n Tryz.prog 122 #[.pointer (some ⟨B,0,none⟩)] (fun y:jY×Nat=>#[.int .i64 (y.2:Int),.agg (jX y.1).toArray]) (fun y _ W=>y.2≤1000∧y.1.1∈items l∧ItP (fun _=>True) W y.1) (WI b) (fun ys=>ys.map (·.1.1)=items l) (fun pre=>pre.length≤1000) w:=fun l' J Jx W hW hJ hJx hY h0=>by
 have CD:=zo (VA hm hc W (hG.after hW) q (hr.after hW));have K0:Hid (Bk W B 145 [.int .i64 0,.slice A l.length c]):=hB.after hW;have HbW:=zo (zZ hb hW.size);have HOW:Hid (∀i,Own b W i→i < W.heap.size):=zo fun i hi=>zZ (hOw i ((Own.below hW hb).1 hi)) hW.size
 have HBO:Hid (¬Own b W B):=zo fun h=>hBO ((Own.below hW hb).1 h)
 have HJA:=zo (show ∀pre W1 W2,J pre W1→Below W1.heap.size W1 W2→J pre W2 from fun pre W1 W2 h hb=>hJ pre W1 _ none h (grownBy_below hb none) (fun r e=>by cases e))
 have HYY:=zo hY;have HJ0:=zo h0;have x1:=K0.cell 1 rfl;clear hB hr hG hW hJ hJx hY h0 hb hOw hBO;refine callsIn_of_wp Tryz.func122 rfl trivial ?_ rfl;simp only[Tryz.ntmps122,List.size_toArray,List.length_cons,List.length_nil,Nat.reduceAdd,Nat.reduceSub,Array.replicate_succ,Array.replicate_zero,List.push_toArray,List.append_toArray,List.nil_append,List.cons_append];have hmx:Tryz.prog.follows .mixedOrders=true:=by kernel_rfl
 gi_wp2_with (first
  |(refine⟨trivial,?_⟩;gi_at_call 123;refine (ym.2 CD.out).mono ?_;rintro e W1 ⟨v1,xs,rfl,hx,ho,hi,hb1⟩;obtain⟨A1,c1,rfl,hc1,_⟩:=bg ho;have HX:=zo (zM hx (zM ho (zM hi hb1)));clear hx ho hi hb1)
  |(refine⟨trivial,?_⟩;gi_at_call 124;refine (ym.2 (MU A1 xs xs.length c1 W1 _ rfl HX.2.1 (by rw[rD l.length l xs (zn _) HX.1];exact hm) (by have h1:=yV List.length HX.1;have h2:=mI l.length l (zn _);rw[zI] at h1;omega))).mono ?_;rintro e W2 ⟨v2,rfl,ho2,hb2⟩;obtain⟨A2,c2,rfl,hc2,_⟩:=bg ho2;have uW:=zo ho2;have HB2:=zo hb2;clear ho2 hb2))
 have HXB:=zo (HX.2.2.2.trans (HB2.mono HX.2.2.2.size))
 have HA0:Hid (AdW b B W.heap.size W2 W2):=zo ⟨fun _ _ _ h _=>h,fun i _ hi hO=>by
  have h1:=(Own.below HXB.out HbW.out).1 hO;rcases hi with rfl|hi
  ·exact HBO.out h1
  ·have:=HOW.out i h1;omega,zn _⟩
 have HJ2:=zo (HJA.out _ _ _ HJ0.out HXB.out);have HR:Hid (W2.ownsRow W.heap.size 30 5 (.slice A1 xs.length c1) xs.length (iF xs)∧W2.ownsRow W.heap.size 3 1 (.slice A2 xs.length c2) xs.length (U1 xs)∧∀x∈xs,ItP (fun i=>W.heap.size≤i) W2 x):=zo ⟨mr HX.2.1 HB2.out,own_base' uW.out HX.2.2.2.size,fun x hx=>⟨((HX.2.2.1 x hx).1.after HB2.out).mono fun _ _ h=>h.1,((HX.2.2.1 x hx).2.after HB2.out).mono fun _ _ h=>h.1⟩⟩
 have qL:=zo (K0.after HXB.out);have HSm:=zo (rD l.length l xs (zn _) HX.1);have HLn:Hid (xs.length≤1000):=zo (by have h1:=yV List.length HX.1;have h2:=mI l.length l (zn _);rw[zI] at h1;omega)
 have HXm:=zo HX.1;clear CD K0 x1 HB2 HX uW HBO HOW HJ0;obtain⟨nx,hnx⟩:∃nx,xs.length=nx:=⟨_,rfl⟩;rw[hnx] at HR HLn ⊢;have auO:(nx:Int)≤1000:=by have:=HLn.out;omega
 gi_loopw [12] (fun v wr=>∃(k:Nat) (pre:List (jY×Nat)),v= .int .i64 (k:Int)∧k≤nx∧Hid (pre.map (·.1)=xs.take k)∧Hid (J pre wr)∧Hid (AdW b B W.heap.size W2 wr)) (fun v _=>nx - (intOf v).toNat)
 case atStart=>exact⟨0,[],rfl,zF _,rfl,HJ2.out,HA0.out⟩
 case round=>
  obtain⟨k,pre,rfl,hk,hp,hj,hA⟩:=hrel;clear HJ2 HA0;by_cases hlt:k < nx
  ·obtain⟨x,hx⟩:∃x,xs[k]? =some x:=⟨_,zg zy⟩;obtain⟨g,rfl,hcell⟩:=Yu (GX HR.1 fun i o hi ho hc=>hA.same i o (.inr hi) ho hc) hnx.symm hx
   have hoff:(U1 xs)[k]? =some (.int .i64 ((j3 (xs.take k):Nat):Int)):=by
    unfold U1;rw[yh,List.getElem?_range zy];rfl
   obtain⟨g2,rfl,z2⟩:=ah4 (GX HR.2.1 fun i o hi ho hc=>hA.same i o (.inr hi) ho hc) hoff
   have zB:wr.cell? ⟨B,0,none⟩=some (.int .i64 0):=Bk.cell (hA.same B _ (.inl rfl) qL.out rfl) 0 rfl;have hst:=Gw hx
   have hit:ItP (fun _=>True) wr x:=by
    have h1:=HR.2.2 x (zD hx);exact⟨(Mq h1.1 fun i o hi ho hc=>hA.same i o (.inr hi) ho hc).mono fun _ _ _=>trivial,(Mq h1.2 fun i o hi ho hc=>hA.same i o (.inr hi) ho hc).mono fun _ _ _=>trivial⟩
   have hmem:x.1∈items l:=by
    rw[← HXm.out];exact zX.2 ⟨x,zD hx,rfl⟩
   have HT:=zo hst.1;obtain⟨z,hz⟩:∃z,j3 (xs.take k)=z:=⟨_,rfl⟩;have hz1:z≤1000:=by have:=hst.2;have:=HSm.out;omega
   rw[hz] at z2;have HL:=zo hlt;have HPl:Hid (pre.length=k):=zo (by have:=yV List.length hp.out;rw[zI,zJ] at this;omega)
   have hwz:IntKind.i64.wrap (z:Int)=(z:Int):=IntWalk.i64_in _ zy;obtain⟨⟨k1,raw,nm,ops,al⟩,A3,c3,A4,c4⟩:=x;have q0:wr.cell? ⟨g,k * 5,none⟩=some (.int .i64 (k1:Int)):=hcell 0 _ rfl;have q1:=hcell 1 _ rfl;have q2:=hcell 2 _ rfl;have q3:=hcell 3 _ rfl;have q4:=hcell 4 _ rfl;obtain⟨fn,tmps,assign,body,hy,hR⟩:=HYY.out pre (((k1,raw,nm,ops,al),A3,c3,A4,c4),z) wr wr.drew (by rw[zL,HPl.out];simp only[List.length_cons,List.length_nil];have:=HLn.out;omega) hj.out (aL (zh _ _)) ⟨hz1,hmem,hit.1,hit.2⟩
   dsimp only[jX] at hy;have HRr:=zo hR;clear hx hoff hst hit hmem hcell hR hz hz1;gi_wp2
   gi_region_with_o (refine HRr.mono ?_;rintro e W3 hW3;obtain⟨bb,rfl,hq⟩:=TP hW3;have HQ:=zo hq;clear hq hW3)
   all_goals
    rcases HQ.out with⟨rfl,hJ3,hk3⟩|⟨rfl,hJx3⟩
    ·have hAd:=hA.step (WI.below (b:=b) (aL (zh wr.heap.size wr)) (zZ HbW.out (zV HXB.size hA.size)));have HA3:=zo (hAd.step hk3);have HJ3:=zo hJ3;have HP3:Hid ((pre++[(((k1,raw,nm,ops,al),A3,c3,A4,c4),z)]).map (·.1)=xs.take (k+1)):=zo (by rw[yu,hp.out,HT.out];rfl)
     clear hJ3 hk3 hAd HQ q0 q1 q2 q3 q4 z2 zB;gi_wp2;go_roundw
     case rel=>exact⟨k+1,_,by go_num,HL.out,HP3.out,HJ3.out,HA3.out⟩
     case measure=>simp only[intOf];have:=HL.out;omega
    ·have HJx:=zo hJx3;clear hJx3 HQ;gi_wp2;refine xx (results_none rfl _ _ _) rfl ?_;exact⟨⟨_,rfl⟩,.inr ⟨_,by rw[zL,HPl.out];simp only[List.length_cons,List.length_nil];have:=HLn.out;have:=HL.out;omega,HJx.out⟩⟩
  ·obtain rfl:k=nx:=zy
   have HF:Hid (pre.map (·.1.1)=items l):=zo (by
    have h1:=hp.out;rw[← hnx,yH] at h1;rw[← HXm.out,← h1,yC];rfl)
   gi_wp2;go_end0;exact⟨⟨_,rfl⟩,.inl ⟨pre,HF.out,hj.out⟩⟩
end
section
open Go.RowKit Go.Shelf Ex
attribute [local go_sem] wZ
theorem Qi (z:Int){x:jY}(hx:TK x.1)(w:World)(hG:eT w){p:Nat→Prop}(h:ItP p w x):
 Calls Tryz.prog 27 #[.int .i64 z,.agg (jX x).toArray] w fun e w'=>e= .returned (.string ⟨(Ec x.1).toArray⟩)∧Below w.heap.size w w':=by
 have C:Hid (∀W,Below w.heap.size w W→Calls Tryz.prog 7 #[.agg (jX x).toArray] W fun e w'=>e= .returned (.string ⟨(Ec x.1).toArray⟩)∧Below W.heap.size W w'):=fun W hb=>GA hx W (hG.after hb) ⟨h.1.after hb,h.2.after hb⟩
 clear hx hG h;generalize (⟨(Ec x.1).toArray⟩:ByteArray)=S at C ⊢;obtain⟨⟨k1,raw,nm,ops,al⟩,A1,c1,A2,c2⟩:=x;dsimp only[jX] at C ⊢;have hb0:=(zh w.heap.size w).alloc (zn _) (.cells #[.int .i64 (k1:Int),.slice A1 raw.length c1,.string (ag nm),.slice A2 ops.length c2,.bool al] 30);have HB:=zo hb0;clear hb0;go_enter Tryz.func27,Tryz.ntmps27
 go_wp2_with (go_at_call 7;refine (C.out _ HB.out).mono ?_;rintro e w1 ⟨rfl,hb⟩;have HB1:=zo (HB.trans (hb.mono HB.size));clear hb)
 go_ret;exact⟨rfl,HB1.out⟩
theorem aov:∀c∈textOf (0:Int),c≠10:=fun c hc=>by
 obtain⟨a,r,e1,e2,e3⟩:=kY 0 zx;have e1:textOf (0:Int)=a::r:=e1;rw[e1] at hc;rcases zQ.1 hc with rfl|hc
 ·exact jw _ (.inr (.inr (.inl e2)))
 ·exact jw _ (.inr (.inr (.inr (.inl (e3 _ hc)))))
theorem aa1 {l:List UInt8}(h:∀c∈l,c≠10):l.count 10=0:=List.count_eq_zero.2 fun h2=>h 10 h2 rfl
theorem Zz {w w':World}{B b:Nat}{p v:Value}{l l2:List UInt8}(h:qd w B b p v l)(hw:Wrote w B b v l2 w'):WI b w w':=by
 obtain⟨v',hb,hf⟩:=hw;refine⟨hf.bel.size,fun i o ho hc hn=>?_,fun i hi=>?_⟩
 ·exact (hf.keep i (dR ho) (fun e=>hn (.inl e)) (fun e=>hn (.inr ⟨v,h.cells.2.1,e.symm⟩))).trans ho
 ·rcases hi with rfl|⟨v2,h1,h2⟩
  ·exact .inl (.inl rfl)
  ·rw[hb.cells.2.1] at h1;obtain rfl:=zq h1;rcases hf.at' i h2 with h3|h3
   ·exact .inl (.inr ⟨v,h.cells.2.1,h3⟩)
   ·exact .inr h3
theorem qd.own' {W W':World}{B b:Nat}{p v:Value}{l:List UInt8}{row:Option Nat}(h:qd W B b p v l)(hg:W.grownBy W' row)(hr:∀r,row=some r→∃o:Obj,W.heap[r]? =some o∧o.isCells=false):qd W' B b p v l:=by
 refine⟨h.ge,iE (vs:=[p,v]) h.blk hg hr,h.pt,MG h.own hg hr⟩
theorem UA {w w':World}{l:List UInt8}{v:Value}{P:Option Addr→Nat→Prop}(h:(l=[]∧v= .slice none 0 0)∨(l≠[]∧∃A c,w'.ownsRow w.heap.size 145 2 v 1 [.int .i64 0,.slice A l.length c]∧P A c)):∃A n c,v= .slice A n c:=by
 rcases h with⟨_,rfl⟩|⟨_,A,c,ho,_⟩
 ·exact⟨_,_,_,rfl⟩
 ·obtain⟨A9,c9,rfl,_⟩:=bg ho;exact⟨_,_,_,rfl⟩
theorem acX (a b:List UInt8):(Lib.trimSuffix a b).length≤a.length:=by
 unfold Lib.trimSuffix;split
 ·rw[zJ];omega
 ·exact zn _
theorem Qt {r:Rj}(h:TK r):(Ec r).length≤100:=by
 obtain⟨hne,h4,⟨h1,h2,p,o,d,dv,nv,_,hd,hk,hal,e1,e2,hE,_⟩|h⟩:=h
 ·unfold Ec Ed;rw[zW ⟨h1,h2⟩];dsimp only;rw[e1,e2];refine zV (acX _ _) ?_;rw[zL,yw];have h5:=P5 _ hE.l3;have h6:=JA hE.nm;have h7:(l5 d.2.1).length=d.2.1.length:=zI _;omega
 ·unfold Ec Ed;rw[za (by rcases h with h|h<;>simp[h])]
  dsimp only;rw[← agO hne];have:=agP r.2.1 h4;unfold daX;rw[zL];simp only[List.length_cons,List.length_nil];omega
theorem Gn:textOf (0:Int)=[48]:=by decide+kernel
theorem MJ:(([]:List UInt8)++(⟨#[9,79,82,71,32]⟩++⟨(textOf 0).toArray⟩++⟨#[10]⟩:ByteArray).data.toList)=[9,79,82,71,32,48,10]:=by
 rw[Gn];rfl
theorem abq (a b:UInt8)(X:List UInt8):(⟨#[a]⟩++⟨X.toArray⟩++⟨#[b]⟩:ByteArray).data.toList=a::X++[b]:=zw
theorem Np {w w':World}{B b N:Nat}{p v:Value}{l l2:List UInt8}(h:qd w B b p v l)(hw:Wrote w B b v l2 w'):KeepsFrom N w w':=by
 obtain⟨v',hb,hf⟩:=hw;refine⟨hf.bel.size,fun k o _ hk ho=>(hf.keep k (dR hk) (Ct hk ho h.blk) fun e=>?_).trans hk⟩
 rcases h.own.2 with⟨h1,_⟩|⟨g,cap,cur,h1,_,h3,_⟩
 ·rw[h1] at e
  cases e
 ·rw[h1] at e;obtain rfl:k=g:=zq e;exact Ct hk ho h3 rfl
structure WrS (w W:World)(p v:Value)(L:List UInt8):Prop where
 bl:Below w.heap.size w W
 st:Bk W w.heap.size 86 [.func (.func 27) #[] #[]]
 bd:qd W w.heap.size (w.heap.size+1) p v L
theorem WrS.after {w W W':World}{p v:Value}{L:List UInt8}(h:WrS w W p v L)(hb:Below W.heap.size W W'):WrS w W' p v L:=⟨h.bl.trans (hb.mono h.bl.size),h.st.after hb,h.bd.after hb⟩
theorem WrS.own {w W W':World}{p v:Value}{L:List UInt8}{row:Option Nat}(h:WrS w W p v L)(hg:W.grownBy W' row)(hr:∀r,row=some r→w.heap.size≤r∧∃o:Obj,W.heap[r]? =some o∧o.isCells=false):WrS w W' p v L:=
 ⟨h.bl.grown hg h.bl.size fun k e=>(hr k e).1,iE h.st hg fun r e=>(hr r e).2,h.bd.own' hg fun r e=>(hr r e).2⟩
theorem WrS.wrote {w W W':World}{p v:Value}{L L':List UInt8}(h:WrS w W p v L)(hw:Wrote W w.heap.size (w.heap.size+1) v L' W'):∃v',WrS w W' (.pointer (some ⟨w.heap.size+1,0,none⟩)) v' L':=by
 obtain⟨v',hb,hf⟩:=hw
 have hst:some w.heap.size≠v.ownBlock:=fun e=>by
  have h1:=h.bd.own.lt _ e.symm;rcases h.bd.own.2 with⟨h2,_⟩|⟨g,cap,cur,h2,_,h3,_⟩
  ·rw[h2] at e
   cases e
  ·rw[h2] at e;obtain rfl:w.heap.size=g:=zq e;have h4:W.heap[w.heap.size]? =some (.cells #[.func (.func 27) #[] #[]] 86 (0,0)):=h.st;rw[h3] at h4;have:=zq h4;injection this with _ h5
   exact absurd h5 zx
 refine⟨v',h.bl.trans hf.bel,(hf.keep _ h.st.lt zy hst).trans h.st,hb⟩
theorem qd.lt {w:World}{B b:Nat}{p v:Value}{l:List UInt8}(h:qd w B b p v l):b < w.heap.size:=dR h.blk
theorem O0 {w w':World}{B b:Nat}{L:List UInt8}(h:Wrote w B b (.slice none 0 0) L w'):∀i,i < w.heap.size→i≠b→w'.heap[i]? =w.heap[i]?:=by
 obtain⟨v',_,hf⟩:=h;exact fun i h1 h2=>hf.keep i h1 h2 (fun e=>by cases e)
def wrA (w w1:World)(g gr c1:Nat)(A:Option Addr)(l:List UInt8)(c:Nat)(w3:World)(T0 T1 T2 T3 z x:Value)(Bx:Nat):Act:={ tmps:=#[.agg #[.func (.func 27) #[] #[]],.pointer (some ⟨g,0,none⟩),.pointer (some ⟨w.heap.size,0,none⟩),undef,.string ⟨#[]⟩,.pointer (some ⟨w.heap.size+1,0,none⟩),undef,.pointer (some ⟨w1.heap.size,0,none⟩),z,.pointer (some ⟨Bx,0,none⟩),.pointer (some ⟨g,0,none⟩),.slice (some ⟨gr,0,none⟩) 1 c1,.int .i64 1,.int .i64 0,.bool true,.pointer (some ⟨gr,0,none⟩),.agg #[.int .i64 0,.slice A l.length c],.pointer (some ⟨w1.heap.size,0,none⟩),.int .i64 0,T0,T1,T2,T3,.agg #[.int .i64 0,.slice A l.length c],.func (.func 122) #[] #[.pointer (some ⟨w3.heap.size,0,none⟩)],z,x,undef,undef,undef,undef,undef,undef,undef,undef,undef,undef],defers:=[]}
def WrP (l:List UInt8)(w:World)(e:Ending)(w':World):Prop:=∃S:ByteArray,e= .returned (.string S)∧S.data.toList.count 10=(items l).length+min l.length 1∧Below w.heap.size w w'
theorem TQ (g:Nat)(l:List UInt8)(w:World)(hm:l.length≤1000)(hG:eT w)(hR:∀W,Below w.heap.size w W→Calls Tryz.prog 62 #[.pointer (some ⟨g,0,none⟩)] W (akg W l)):
 Calls Tryz.prog 28 #[.agg #[.func (.func 27) #[] #[]],.pointer (some ⟨g,0,none⟩)] w (WrP l w):=by
 refine (ym (n:=3)).1 ?_;refine callsIn_of_wp_marks Tryz.func28 rfl trivial ?_ rfl;simp only[Tryz.ntmps28,List.size_toArray,List.length_cons,List.length_nil,Nat.reduceAdd,Nat.reduceSub,Array.replicate_succ,Array.replicate_zero,List.push_toArray,List.append_toArray,List.nil_append,List.cons_append];have hmx:Tryz.prog.follows .mixedOrders=true:=by kernel_rfl
 have hb0:Below w.heap.size w ((w.alloc (.cells #[.func (.func 27) #[] #[]] 86)).alloc (.cells #[.pointer none,.slice none 0 0] 141)):=((zh _ _).alloc (zn _) _).alloc zw _;have hst:Bk ((w.alloc (.cells #[.func (.func 27) #[] #[]] 86)).alloc (.cells #[.pointer none,.slice none 0 0] 141)) w.heap.size 86 [.func (.func 27) #[] #[]]:=(Bk.new w 86 [.func (.func 27) #[] #[]]).alloc _;have hbl:qd ((w.alloc (.cells #[.func (.func 27) #[] #[]] 86)).alloc (.cells #[.pointer none,.slice none 0 0] 141)) w.heap.size (w.heap.size+1) (.pointer none) (.slice none 0 0) []:=⟨yY _,by have:=yJ (w.alloc (.cells #[.func (.func 27) #[] #[]] 86)) (.cells #[.pointer none,.slice none 0 0] 141);rwa [zU] at this,.inl rfl,yx _ _ _ _⟩
 have HR:=zo (hR _ hb0);have HX0:Hid (WrS w _ (.pointer none) (.slice none 0 0) []):=zo ⟨hb0,hst,hbl⟩;have HG:=zo hG;clear hR hG hb0 hst hbl
 gi_wp2_with (refine⟨trivial,?_⟩;gi_at_call 62;refine (ym.2 HR.out).mono ?_;rintro e w1 ⟨v,rfl,hb,hv⟩;have HV:=zo hv;have HX1:=zo (HX0.after hb);obtain⟨A1,n1,c1,rfl⟩:∃A n c,v= .slice A n c:=UA hv;clear hb hv)
 have hsz1:=HX1.bl.size;rcases HV.out with⟨rfl,hv⟩|⟨hne,A,c,ho,hc,hr⟩
 ·injection hv with a1 a2 a3
  subst a1 a2 a3;have CS:=zo (HX1.bd.string hsz1);refine wpIn_loop_rounds 1 ?_;rw[roundsIn_succ]
  gi_wp2_with (refine⟨trivial,?_⟩;gi_at_call 65;refine (ym.2 CS.out).mono ?_;rintro e w2 ⟨rfl,hb,_⟩;have HB2:=zo (HX1.bl.trans hb);clear hb)
  exact⟨_,results_tmp rfl _ _ _,_,rfl,rfl,HB2.out⟩
 ·obtain⟨A9,c9,hv9,hc9,_⟩:=bg ho;injection hv9 with a1 a2 a3
  subst a1 a2 a3
  obtain⟨gr,rfl,r0,r1⟩:∃gr,A1=some ⟨gr,0,none⟩∧w1.cell? ⟨gr,0,none⟩=some (.int .i64 0)∧w1.cell? ⟨gr,1,none⟩=some (.slice A l.length c):=by
   rcases ho.2 with⟨_,h0⟩|⟨gq,cap,cur,hv,_,hh,_,_,_,h4⟩
   ·exact absurd h0 zx
   ·injection hv with b1 b2 b3
    refine⟨gq,b1,?_,?_⟩
    ·have h5:(cur.toList.take (1 * 2))[0]? =some (.int .i64 0):=by rw[h4];rfl
     rw[yj] at h5;simp only[World.cell?,hh]
     simpa using h5
    ·have h5:(cur.toList.take (1 * 2))[1]? =some (.slice A l.length c):=by rw[h4];rfl
     rw[yj] at h5;simp only[World.cell?,hh]
     simpa using h5
  have HRd:=zo hr;have HC:=zo (zM hne hc);clear hr HV ho hne hc;refine wpIn_loop_rounds 2 ?_;rw[roundsIn_succ];have hbx:=(zh w1.heap.size w1).alloc (zn _) (.cells #[.int .i64 0,.slice A l.length c] 145);have TL:=zo (HX1.after hbx);have hkb:Bk (w1.alloc (.cells #[.int .i64 0,.slice A l.length c] 145)) w1.heap.size 145 [.int .i64 0,.slice A l.length c]:=Bk.new w1 _ _;have HKB:=zo hkb;have HR2:=zo (HRd.after hbx);clear hbx;have u0:=HKB.cell 0 rfl;have u1:=HKB.cell 1 rfl
  gi_wp2_with (refine⟨trivial,?_⟩;gi_at_call 50;refine (ym.2 (oM 0 _ (Dc (HG.after TL.bl)))).mono ?_;rintro e w2 ⟨rfl,hb⟩;have HX3:=zo (TL.after hb);have aof:=zo (HKB.after hb);have HR3:=zo (HR2.after hb);have HS2:=zo hb.size;clear hb)
  refine⟨trivial,?_⟩
  gi_at_call 63
  refine (ym.2 (LA _ _ _ _ _ _ _ HX3.bd (by rw[Gn];decide) HX3.bl.size)).mono ?_
  rintro e w3 ⟨rfl,hw⟩;obtain⟨v4,hx4⟩:=HX3.wrote hw;have HX4:=zo hx4;have hkp:=O0 hw;have hbs:=HX1.bd.lt;have aoe:Hid (Bk w3 w1.heap.size 145 [.int .i64 0,.slice A l.length c]):=zo ((hkp _ aof.lt zy).trans aof.out);have HR4:=zo (HR3.keep (w':=w3) fun i h1 h2=>hkp i h1 (by have h3:=h2.1;simp at h3;omega))
  have u2:=aoe.cell 0 rfl;have u3:=aoe.cell 1 rfl;clear hw hkp hx4
  gi_wp2_with (refine⟨trivial,?_⟩;gi_at_call 64;refine (ym.2 (FZ 0 A l.length c w3)).mono ?_;rintro e w4 ⟨rfl,rfl⟩)
  have hcnt:(([]:List UInt8)++(⟨#[9,79,82,71,32]⟩++⟨(textOf 0).toArray⟩++⟨#[10]⟩:ByteArray).data.toList).count 10=1:=by
   rw[MJ];rfl
  have hlen:(([]:List UInt8)++(⟨#[9,79,82,71,32]⟩++⟨(textOf 0).toArray⟩++⟨#[10]⟩:ByteArray).data.toList).length≤100:=by
   rw[MJ];decide
  generalize ([]++(⟨#[9,79,82,71,32]⟩++⟨(textOf 0).toArray⟩++⟨#[10]⟩:ByteArray).data.toList)=L0 at HX4 hcnt hlen;generalize Value.string (⟨#[9,79,82,71,32]⟩++⟨(textOf 0).toArray⟩++⟨#[10]⟩)=T2;generalize Value.string (⟨#[9,79,82,71,32]⟩++⟨(textOf 0).toArray⟩)=T1;generalize Value.string ⟨(textOf 0).toArray⟩=T0;generalize Value.tuple #[Value.int IntKind.i64 (5+((textOf 0).length:Int)+1),Value.nilIface]=T3;have hal:=(zh w3.heap.size w3).alloc (zn _) (.cells #[.int .i64 0,.slice A l.length c] 145);have hB:Bk (w3.alloc (.cells #[.int .i64 0,.slice A l.length c] 145)) w3.heap.size 145 [.int .i64 0,.slice A l.length c]:=Bk.new w3 _ _;have hX5:=HX4.after hal;have hR5:=HR4.after hal;have hz5:=zU w3 (.cells #[.int .i64 0,.slice A l.length c] 145);have hvl:∀i,v4.ownBlock=some i→i < w3.heap.size:=fun i hi=>(HX4.bd.own.lt i hi).2
  have hbl:=HX4.bd.lt;generalize w3.alloc (.cells #[.int .i64 0,.slice A l.length c] 145)=W0 at hB hX5 hR5 hz5 ⊢
  have hOw:∀i,Own (w.heap.size+1) W0 i→i < w3.heap.size:=fun i hi=>by
   rcases hi with rfl|⟨v,h1,h2⟩
   ·exact hbl
   ·rw[hX5.bd.cells.2.1] at h1;obtain rfl:=zq h1;exact hvl i h2
  refine Jq (F:=Fence.wide) (n:=3) rfl zy (gf:=122) (lb:=#[.pointer (some ⟨w3.heap.size,0,none⟩)]) rfl trivial (enters_of Tryz.func122 zz rfl)
   (abC (b:=w.heap.size+1) (n:=3 - 1) zy hm HC.2 W0 (HG.after hX5.bl) hR5 hB zy (fun i hi=>by have:=hOw i hi;omega) (fun h=>absurd (hOw _ h) (Nat.lt_irrefl _))) (fun h k=>WI.trans h k) (fun W l o o' hl ho hc _=>?kb) (fun _=>rfl)
   (fun pre W=>∃p v L,WrS w W p v L∧L.count 10=1+pre.length∧L.length≤100+200 * pre.length)
   (fun _ _ _=>False)
   (fun s W W' row ⟨p,v,L,h1,h2⟩ hg hr=>⟨p,v,L,h1.own hg fun r e=>⟨by have:=(hr r e).1;omega,(hr r e).2⟩,h2⟩)
   (fun _ _ _ _ _ hs _ _=>hs)
   ⟨_,_,_,hX5,hcnt,hlen⟩
   (fun y a' W=>∃Bx,Bk W Bx 30 (jX y.1)∧y.1.1∈items l∧ItP (fun _=>True) W y.1∧a'=wrA w w1 g gr c1 A l c w3 T0 T1 T2 T3 (.int .i64 (y.2:Int)) (.agg (jX y.1).toArray) Bx)
   (fun y a' s W W' row ⟨Bx,h1,h2,h3,h4⟩ hg hr=>⟨Bx,iE h1 hg fun r e=>(hr r e).2,h2,⟨nD h3.1 hg fun r e=>(hr r e).2,nD h3.2 hg fun r e=>(hr r e).2⟩,h4⟩)
   ?assign ?body ?done ?stop
  case kb=>
   have hlb:w.heap.size+1≠l:=zy;refine⟨zw,fun i u hu hcu hn=>(World.putObj_heap_other fun e=>?_).trans hu,fun i hi=>.inl ?_⟩
   ·rw[e,ho] at hu;obtain rfl:=zq hu;rw[hc] at hcu
    cases hcu
   ·rcases hi with rfl|⟨v,h1,h2⟩
    ·exact .inl rfl
    ·exact .inr ⟨v,by rw[← h1];exact (yz (World.putObj_heap_other hlb)).symm,h2⟩
  case assign=>
   rintro l' pre y Wr W K _ ⟨p,v,L,hs,hc⟩ hbb ⟨hz,hmem,hit⟩ hK;have hs':=hs.after hbb;have ha:=(zh W.heap.size W).alloc (zn _) (.cells (jX y.1).toArray 30);have hk:=hK (wrA w w1 g gr c1 A l c w3 T0 T1 T2 T3 (.int .i64 (y.2:Int)) (.agg (jX y.1).toArray) W.heap.size) (W.alloc (.cells (jX y.1).toArray 30)) ⟨ha.size,fun k o _ hk _=>(ha.block k (dR hk)).trans hk⟩ (WI.below ha hs'.bd.lt) ⟨p,v,L,hs'.after ha,hc⟩ ⟨W.heap.size,Bk.new W _ _,hmem,⟨hit.1.after ha,hit.2.after ha⟩,rfl⟩
   clear hK hs hs' hit ha hbb;obtain⟨⟨⟨k1,raw,nm,ops,al⟩,A3,c3,A4,c4⟩,z⟩:=y;unfold wrA at hk;dsimp only[jX] at hk ⊢;gi_wp2;exact hk
  case body=>
   rintro l' pre y a' W hsp ⟨p,v,L,hs,hc,hl⟩ ⟨Bx,hx,hmem,hit,rfl⟩;have hT:=pz l.length l (zn _) y.1.1 hmem;have CP:=zo (Qi (y.2:Int) hT W (HG.after hs.bl) hit);have hnl:=amA hT;have hle:=Qt hT;have HS:=zo hs;have hpl:pre.length+1≤1000:=by simpa using hsp
   clear hT hit hmem hs;obtain⟨X,hX⟩:∃X,Ec y.1.1=X:=⟨_,rfl⟩;rw[hX] at CP hnl hle;clear hX;obtain⟨⟨⟨k1,raw,nm,ops,al⟩,A3,c3,A4,c4⟩,z⟩:=y;unfold wrA;dsimp only[jX] at hx CP ⊢;have x0:=hx.cell 0 rfl;have x1:=hx.cell 1 rfl;have x2:=hx.cell 2 rfl;have x3:=hx.cell 3 rfl;have x4:=hx.cell 4 rfl;have y0:=HS.st.cell 0 rfl;clear hx
   gi_wp2_with (refine⟨trivial,?_⟩;gi_at_call 27;refine (CallsIn.inRound l' (ym.2 CP.out)).mono ?_;rintro e W1 ⟨rfl,hb⟩;have HS1:=zo (HS.after hb);have HB1:=zo hb;clear hb)
   refine⟨trivial,?_⟩
   gi_at_call 63
   have hbx:=abq 9 10 X
   have hzs:(⟨#[9]⟩++⟨X.toArray⟩++⟨#[10]⟩:ByteArray).size=X.length+2:=by
    have:=yV List.length hbx;rw[bF] at this
    simpa using this
   refine (CallsIn.inRound l' (ym.2 (LA _ _ _ _ _ _ _ HS1.bd (by rw[hzs];omega) HS1.bl.size))).mono ?_
   rintro e W2 ⟨rfl,hw⟩;rw[hbx] at hw;have hkw:=(WI.below HB1.out HS.bd.lt).trans (Zz HS1.bd hw);have hkf:KeepsFrom W0.heap.size W W2:=KeepsFrom.trans ⟨HB1.size,fun k o _ hk _=>(HB1.block k (dR hk)).trans hk⟩ (Np HS1.bd hw)
   obtain⟨v2,hs2⟩:=HS1.wrote hw
   have hcn:(L++(9::X++[10])).count 10=1+(pre.length+1):=by
    rw[List.count_append,hc]
    have:(9::X++[10]).count 10=1:=by
     rw[List.count_append]
     have h1:(9::X).count (10:UInt8)=0:=aa1 fun c hc=>by
      rcases zQ.1 hc with rfl|hc
      ·decide
      ·exact hnl c hc
     rw[h1];rfl
    rw[this];omega
   have hln:(L++(9::X++[10])).length≤100+200 * (pre.length+1):=by
    rw[zL];simp only[List.length_append,List.length_cons,List.length_nil];omega
   have HF:=zo (zM hkf (zM hkw (zM hs2 (zM hcn hln))));clear hw hkw hkf hs2 hcn hln hc hl;gi_wp2;exact⟨HF.1,HF.2.1,_,v2,_,HF.2.2.1,by rw[zL];exact HF.2.2.2.1,by have h9:=HF.2.2.2.2;simp only[List.length_append,List.length_cons,List.length_nil] at h9 ⊢;omega⟩
  case done=>
   rintro D ys W hD hys ⟨p,v,L,hs,hc,hl⟩ hK;have HS:=zo hs;have HKd:=zo hK;have CS:=zo (hs.bd.string hs.bl.size);clear hs hK;gi_wp2;rw[roundsIn_succ]
   gi_wp2_with (refine⟨trivial,?_⟩;gi_at_call 65;refine (ym.2 CS.out).mono ?_;rintro e w5 ⟨rfl,hb,hk⟩;have HB5:=zo (zM hb (hk D _ HKd.out rfl));clear hb hk)
   refine⟨zw,.inl ⟨_,_,rfl,run_takeDeferred HB5.2,?_⟩⟩;refine⟨_,results_tmp rfl _ _ _,_,rfl,?_,(HS.bl.trans HB5.1).grown (grownBy_putObj' w5 D (.deferred none)) (HS.bl.trans HB5.1).size fun k e=>?_⟩
   ·have h1:=yV List.length hys;rw[zI] at h1;have h2:1≤l.length:=yG.2 HC.1;show L.toArray.toList.count 10=_;rw[Nat.min_eq_right h2,← h1]
    simpa [Nat.add_comm] using hc
   ·obtain rfl:=zq e;omega
  case stop=>
   rintro D cc pre W _ _ h _;exact h.elim
theorem M8 (g:Nat)(l:List UInt8)(w:World)(hm:l.length≤1000)(hG:eT w)(hR:∀W,Below w.heap.size w W→Calls Tryz.prog 62 #[.pointer (some ⟨g,0,none⟩)] W (akg W l)):
 Calls Tryz.prog 12 #[.pointer (some ⟨g,0,none⟩)] w (WrP l w):=by
 have C:=zo (TQ g l w hm hG hR);clear hG hR;go_enter Tryz.func12,Tryz.ntmps12
 go_wp2_with (go_at_call 28;refine C.mono ?_;rintro e w1 ⟨S,rfl,h1,h2⟩;have H:=zo (show WrP l w (.returned (.string S)) w1 from⟨S,rfl,h1,h2⟩);clear h1 h2)
 go_ret;exact H.out
end
section
open Go.RowKit Ex
theorem Vw {r:Rj}(h:TK r):((⟨(9::Ec r).toArray⟩:ByteArray).size:Int)≤1024:=by
 have:=Qt h;show (((9::Ec r).toArray.size:Nat):Int)≤1024;rw[List.size_toArray,yw];omega
def akj (r:Rj)(w:World)(e:Ending)(w':World):Prop:=∃op ar pa,e= .returned (.tuple #[.agg #[.string ⟨#[]⟩,op,ar,pa],.int .i64 0])∧(op.oneCell'=true∧ar.oneCell'=true∧pa.oneCell'=true)∧asf r.2.1.length op ar pa w'∧Below w.heap.size w w'
theorem ahE {w:World}{B:Nat}{T:TypeId}{A:Option Addr}{n c:Nat}{l:List Value}(h:w.ownsRow B T 4 (.slice A n c) n l)(_hn:0 < n):∃g,A=some ⟨g,0,none⟩∧B≤g∧g < w.heap.size∧n≤c∧c≤maxLen:=by
 rcases h.2 with⟨_,h0⟩|⟨g,cap,cur,hv,hB,hh,h1,h2,_⟩
 ·omega
 ·injection hv with a1 a2 a3
  exact⟨g,a1,hB,lt_of_heap hh,zy,zy⟩
theorem UR {r:Rj}(h:TK r)(hB:∀ν,jA ν ((Ed r).1,(Ed r).2.map iD,r.2.1.length)=true)(w:World)(hG:eT w):Calls Tryz.prog 6 #[.string ⟨(9::Ec r).toArray⟩] w (akj r w):=by
 obtain⟨h1,h2⟩:=agq h;obtain⟨h3,h4⟩:=ZI h1 h2;obtain⟨_,hlen⟩:=LQ (ρ:=iY) (nm:=(Ed r).1) h2;have hx:Ec r=shX (Ed r).1 (Ed r).2:=rfl
 have CT:=zo (fun W=>Uo ⟨(9::Ec r).toArray⟩ W (Vw h) (R6 0 (Qw (Ed r).1 (Ed r).2)) _ (by
  show tks _ (9::Ec r) 0=_;rw[hx,← h3];exact RB _ 0 h4))
 have CL:=zo (fun (W:World) (hb:Below w.heap.size w W) (g c pb:Nat) hrow hp hp0 (R:Nat) hR hRg hRp=>Zo hB h2 hG hb (g:=g) (c:=c) (pb:=pb) rfl hrow hp hp0 (R:=R) hR hRg hRp)
 generalize R6 0 (Qw (Ed r).1 (Ed r).2)=T at CT CL hlen;generalize Ec r=tx at CT;generalize hN:T.length=N at CT CL hlen;have hN0:0 < N:=zy;obtain⟨M,hM⟩:∃M,N - 1=M:=⟨_,rfl⟩;rw[hM] at CL;clear hB h1 h2 h3 h4 hx h hlen;go_enter Tryz.func6,Tryz.ntmps6;have hmx:Tryz.prog.follows .mixedOrders=true:=by kernel_rfl
 have HN:=zo (zM hN0 hM);clear hN0 hM
 go_wp2_with (first
  |(go_at_call 16;go_loud (refine (CT.out _).mono ?_;rintro e w1 ⟨A,c,rfl,ho,hb⟩;obtain⟨g,rfl,hg,hgl,hgc,hcm⟩:=ahE ho HN.1;have hw:wrap64 ((N:Int) - 1)=(M:Int):=(by have:=HN.out;unfold maxLen at hcm;exact (IntWalk.wrap64_in _ zy).trans zy);have hwc:(M:Int)≤(c:Int):=(by have:=HN.out;omega);have HO:=zo ho;have HG1:=zo (zM hg hgl);have HB1:=zo (((zh _ _).alloc (zn _) _).trans (hb.mono zw));have jq:=zo ((Bk.new w 34 [.string ⟨#[]⟩,.string ⟨#[]⟩,.slice none 0 0,.slice none 0 0]).after hb);clear ho hg hgl hgc hcm hb;have BQ:=zo (HB1.alloc HB1.size (.cells #[.slice (some ⟨g,0,none⟩) M c,.string ⟨#[]⟩,.string ⟨#[]⟩,.slice none 0 0,.slice none 0 0] 62));have HKp:=zo (Bk.new w1 62 [.slice (some ⟨g,0,none⟩) M c,.string ⟨#[]⟩,.string ⟨#[]⟩,.slice none 0 0,.slice none 0 0]);have HKa:=zo (jq.alloc (.cells #[.slice (some ⟨g,0,none⟩) M c,.string ⟨#[]⟩,.string ⟨#[]⟩,.slice none 0 0,.slice none 0 0] 62));have HOa:=zo (HO.alloc (.cells #[.slice (some ⟨g,0,none⟩) M c,.string ⟨#[]⟩,.string ⟨#[]⟩,.slice none 0 0,.slice none 0 0] 62))))
  |(go_at_call 17;go_loud (refine (CL.out _ BQ.out _ _ _ (own_base' HOa.out zu) HKp.out HB1.size w.heap.size (by have:=HKa.lt;omega) (by have:=HG1.out;simp at this;omega) (by have:=jq.lt;omega)).mono ?_;rintro e w2 ⟨rfl,hb,hk,u,op,ar,pa,T2,hp,⟨o1,o2,o3⟩,hf⟩;have HB2:=zo hb;have qL:Hid (Bk w2 w.heap.size 34 [.string ⟨#[]⟩,.string ⟨#[]⟩,.slice none 0 0,.slice none 0 0]):=zo ((hk _ HKa.lt (by have:=jq.lt;omega) (by have:=HG1.out;simp at this;omega)).trans HKa.out);have HF2:=zo hf;have HP2:=zo hp;have q0:=hp.cell 1 rfl;have q1:=hp.cell 2 rfl;have q2:=hp.cell 3 rfl;have q3:=hp.cell 4 rfl;clear hb hk hp hf))
  |(refine aN rfl 34 (.tmp 2) (.tmp 34) rfl w.heap.size 0 [.string ⟨#[]⟩,op,ar,pa] rfl rfl 34 _ qL.out rfl zw (fun v hv=>by simp only[List.mem_cons,List.not_mem_nil,or_false] at hv;rcases hv with rfl|rfl|rfl|rfl<;>first|rfl|assumption) ?_;intro w3 hk3 hg3;have u7:=zo hk3;have ru:=zo hg3;have y0:=hk3.cell 0 rfl;have y1:=hk3.cell 1 rfl;have y2:=hk3.cell 2 rfl;have y3:=hk3.cell 3 rfl;clear hk3 hg3))
 refine⟨rfl,.tuple #[.agg #[.string ⟨#[]⟩,op,ar,pa],.int .i64 0],by simp[results,Tryz.results6,go_sem,y0,y1,y2,y3],op,ar,pa,rfl,⟨o1,o2,o3⟩,fun W hW=>?_,?_⟩
 ·have hz:=ru.size;have hs:=HB2.size;have hb3:Below w.heap.size w w3:=HB2.grown ru.out HB2.size fun k e=>by have:w.heap.size=k:=zq e;omega
  exact HF2.out W (hb3.trans (hW.mono hb3.size)) (zV hz hW.size) fun i hi hne=>(hW.block i (zZ hi hz)).trans (ru.block i hi fun e=>hne (zq e))
 ·exact HB2.grown ru.out HB2.size fun k e=>by have:w.heap.size=k:=zq e;omega
end
