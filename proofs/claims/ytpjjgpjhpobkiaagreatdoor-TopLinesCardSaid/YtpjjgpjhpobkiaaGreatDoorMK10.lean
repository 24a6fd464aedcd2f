/- Parts of the proof of TopLines. -/
import Derived.Test.YtpjjgpjhpobkiaaGreatDoorMKk
import Derived.Test.YtpjjgpjhpobkiaaGreatDoorMX3
set_option maxHeartbeats 8000000
namespace Go.Proofs.YtpjjgpjhpobkiaaGreatDoor
open Go.RowKit Ex
def ajd (ex:List Nat)(l lc:List aG)(k:Nat):Bool:=if bP ex l k=0 then decide (iJ l k=iJ lc k) else qO (gJ (bP ex l k)).1 (gJ (bP ex l k)).2 (iJ lc k)
def aeR (ex:List Nat)(l lc:List aG):Bool:=(List.range lc.length).all (ajd ex l lc)
theorem Zt (ex:List Nat)(o:aG)(rest:List aG):Nc ex o rest=0∨Nc ex o rest∈aX:=by
 unfold Nc aX;split
 ·simp
 ·split
  ·simp
  ·split
   ·simp
   ·split
    ·simp
    ·split
     ·simp
     ·split<;>simp
theorem D7 (ex:List Nat)(l:List aG)(k:Nat):bP ex l k=0∨bP ex l k∈aX:=by
 unfold bP;split
 ·exact .inl rfl
 ·exact Zt _ _ _
structure FiW (w W:World)(pg o:Value)(s:ByteArray)(A:Option Addr)(n c:Nat)(ex:List Nat)(al:Value)(l:List aG)(b5:Nat)(s':ByteArray)(A5:Option Addr)(n5 c5:Nat)(lc:List aG):Prop where
 b0:Bk W w.heap.size 95 [pg,o,.string s,.slice A n c,.string (ag ex),al]
 b5:Bk W b5 28 [.string s',.slice A5 n5 c5]
 r0:Rd W (fun _=>True) A (dD l)
 r5:Rd W (fun _=>True) A5 (dD lc)
 bl:Below w.heap.size w W
theorem FiW.after {w W W':World}{pg o:Value}{s:ByteArray}{A:Option Addr}{n c:Nat}{ex:List Nat}{al:Value}{l:List aG}{b5:Nat}{s':ByteArray}{A5:Option Addr}{n5 c5:Nat}{lc:List aG}(h:FiW w W pg o s A n c ex al l b5 s' A5 n5 c5 lc)(hb:Below W.heap.size W W'):FiW w W' pg o s A n c ex al l b5 s' A5 n5 c5 lc:=
 ⟨h.b0.after hb,h.b5.after hb,h.r0.after hb,h.r5.after hb,h.bl.trans (hb.mono h.bl.size)⟩
def dO (s:ByteArray)(lc:List aG)(d:bL):Bool:=decide (d.1=1) && (!d.2.2.2.1 && jo (ag d.2.1) s (opsL d.2.2.2.2) lc)
def kI (s:ByteArray)(lc:List aG)(d:bL):Bool:=dO s lc d && aeR d.2.2.1 (opsL d.2.2.2.2) lc
namespace Ex
open Go.RowKit
def Sv:List Nat→Bool
 |[]=>true
 |x::l=>cond (Nat.blt x 256) (Sv l) false
def XX (_p _o:Nat)(d:bL):Bool:=Nat.beq (Nat.mod d.2.2.2.2.length 3) 0 && (Nat.ble d.2.2.2.2.length 9 && (gV d.2.2.1 jQ && Sv d.2.1))
theorem PN:allT XX 0 DF=true:=by kernel_rfl
theorem Hm:∀{l:List Nat},Sv l=true→∀x∈l,x < 256
 |[],_,_,h=>by cases h
 |y::l,h,x,hx=>by
  unfold Sv at h
  cases hy:Nat.blt y 256 with
  |false=>rw[hy] at h;cases h
  |true=>
   rw[hy] at h;rcases zQ.1 hx with rfl|hx
   ·simpa using hy
   ·exact Hm h x hx
theorem eF {p o:Nat}{d:bL}(hd:jd p o=some d):d.2.2.2.2.length % 3=0∧d.2.2.2.2.length≤9∧gV d.2.2.1 jQ=true∧∀x∈d.2.1,x < 256:=by
 have h:=dL PN hd;unfold XX at h;simp only[Bool.and_eq_true] at h;obtain⟨h1,h2,h3,h4⟩:=h;exact⟨(beq_iff _ _).1 h1,zk h2,h3,Hm h4⟩
theorem PM {p o:Nat}{d:bL}(hd:jd p o=some d):lN d=dD (opsL d.2.2.2.2)∧(opsL d.2.2.2.2).length=d.2.2.2.2.length / 3∧(opsL d.2.2.2.2).length≤3:=by
 obtain⟨h1,h2,_,_⟩:=eF hd;have h3:=o6 _ h1;exact⟨(R8 _ h1).symm,h3,zy⟩
end Ex
theorem MN:∀{cs:List Nat} {k n:Nat},cs.length % 3=0→iw cs (k * 3+2)=some n→iJ (opsL cs) k=(n:Int)
 |[],k,n,_,h=>by cases h
 |[_],_,_,h,_=>by simp at h
 |[_,_],_,_,h,_=>by simp at h
 |a::b::c::l,0,n,_,h=>by
  have h':some c=some n:=h;obtain rfl:=zq h';rfl
 |a::b::c::l,k+1,n,hm,h=>by
  have h':iw l (k * 3+2)=some n:=by
   rw[show (k+1) * 3+2=(k * 3+2)+3 by omega] at h
   exact h
  have:=MN (cs:=l) (by simp only[List.length_cons] at hm;omega) h'
  unfold iJ at this ⊢
  simpa only[opsL,List.getElem?_cons_succ] using this
theorem Ru {cs:List Nat}(hm:cs.length % 3=0){v:Option Vr}(h:acN cs v=true):vOk (opsL cs) v:=fun x hx=>by
 subst hx;simp only[acN,Bool.and_eq_true] at h;obtain⟨h1,h2⟩:=h;have h2:=aK h2;refine⟨by rw[o6 _ hm];omega,?_⟩
 unfold zAt at h1;split at h1
 ·rename_i n hn;obtain rfl:=(beq_iff _ _).1 h1;exact MN hm hn
 ·cases h1
def agf (_p _o:Nat)(d:bL):Bool:=match d.1 with
 |1=>[0,1,2].all fun k=>Nat.ble (opsL d.2.2.2.2).length k || adg (rgL (bP d.2.2.1 (opsL d.2.2.2.2) k)) (qV (uI (bZ d.2.2.2.2) d.2.2.1) (JH (bZ d.2.2.2.2) d.2.2.1) k)
 |_=>true
theorem Vn:allT agf 0 DF=true:=by kernel_rfl
theorem Jl:∀{a b:Option (Int×Int)},adg a b=true→a=b
 |none,none,_=>rfl
 |some a,some b,h=>by
  simp only[adg,Bool.and_eq_true] at h;obtain⟨a1,a2⟩:=a;obtain⟨b1,b2⟩:=b;obtain rfl:=eY h.1;obtain rfl:=eY h.2;rfl
 |none,some _,h=>by cases h
 |some _,none,h=>by cases h
abbrev kQ (d:bL):Option Vr:=uI (bZ d.2.2.2.2) d.2.2.1
abbrev l8 (d:bL):Option Vr:=JH (bZ d.2.2.2.2) d.2.2.1
structure akv (p:Nat)(d:bL):Prop where
 vd:vOk (opsL d.2.2.2.2) (kQ d)
 vn:vOk (opsL d.2.2.2.2) (l8 d)
 ne:∀x y,kQ d=some x→l8 d=some y→x.1≠y.1
 rd:Du (BU d.2.2.1) (kQ d)=true
 rn:Du (Dp d.2.2.1) (l8 d)=true
 pg:Yo p (Qy d.2.2.2.2)=true
 nm:d.2.1≠[]
 lt:∀k,k < (opsL d.2.2.2.2).length→rgL (bP d.2.2.1 (opsL d.2.2.2.2) k)=qV (kQ d) (l8 d) k
theorem jk {p o:Nat}{d:bL}(hd:jd p o=some d)(hk:d.1=1):akv p d:=by
 have h1:=dL QL hd;have h2:=dL Vn hd;obtain⟨m1,m2,_,_⟩:=eF hd;obtain⟨_,_,h9⟩:=PM hd;unfold aaI at h1;unfold agf at h2;rw[hk] at h1 h2;simp only[Bool.and_eq_true,Bool.not_eq_true'] at h1;obtain⟨a1,a2,a3,a4,a5,_,a7,_,a9⟩:=h1;refine⟨Ru m1 a1,Ru m1 a2,fun x y hx hy e=>?_,a4,a5,a7,fun e=>?_,fun k hk'=>?_⟩
 ·unfold kQ at hx;unfold l8 at hy;rw[hx,hy] at a3;simp only[agd,Bool.not_eq_true'] at a3;rw[(beq_iff _ _).2 e] at a3
  cases a3
 ·rw[e] at a9
  cases a9
 ·simp only[List.all_cons,List.all_nil,Bool.and_true,Bool.and_eq_true,Bool.or_eq_true] at h2;obtain⟨b0,b1,b2⟩:=h2;have hk3:k=0∨k=1∨k=2:=zy;rcases hk3 with rfl|rfl|rfl
  ·rcases b0 with b|b
   ·have:=zk b;omega
   ·exact Jl b
  ·rcases b1 with b|b
   ·have:=zk b;omega
   ·exact Jl b
  ·rcases b2 with b|b
   ·have:=zk b;omega
   ·exact Jl b
theorem abk {a b:Bool}(h:a=true↔b=true):a=b:=by
 cases a<;>cases b<;>simp_all
theorem NM {p:Nat}{d:bL}(h:akv p d){lc:List aG}(hs:(opsL d.2.2.2.2).map bG=lc.map bG):BI (kQ d) (l8 d) (opsL d.2.2.2.2) lc=aeR d.2.2.1 (opsL d.2.2.2.2) lc:=by
 have hlen:=vG hs;refine abk ((NJ hs h.vd h.vn h.ne).trans ?_);unfold aaj aeR;rw[zY]
 have one:∀(k:Nat) (o:aG),lc[k]? =some o→((match qV (kQ d) (l8 d) k with|some r=>qO r.1 r.2 o.2.2=true|none=>o.2.2=iJ (opsL d.2.2.2.2) k)↔ajd d.2.2.1 (opsL d.2.2.2.2) lc k=true):=fun k o hk=>by
  have hkl:k < (opsL d.2.2.2.2).length:=by
   have:=(zf.1 hk).1;omega
  have h1:=h.lt k hkl;unfold ajd;rw[bR hk];rcases D7 d.2.2.1 (opsL d.2.2.2.2) k with h0|hm
  ·rw[h0] at h1 ⊢;rw[← h1,zW rfl];show o.2.2=_↔_;rw[decide_eq_true_eq];exact eq_comm
  ·generalize bP d.2.2.1 (opsL d.2.2.2.2) k=t at h1 hm;simp only[aX,List.mem_cons,List.not_mem_nil,or_false] at hm;rcases hm with rfl|rfl|rfl|rfl
   all_goals
    rw[← h1,za zx];exact Iff.rfl
 constructor
 ·intro h1 k hk;have hk':=yS.1 hk;obtain⟨o,ho⟩:∃o,lc[k]? =some o:=⟨_,zg hk'⟩;exact (one k o ho).1 (h1 k o ho)
 ·intro h1 k o ho;exact (one k o ho).2 (h1 k (yS.2 (zf.1 ho).1))
def UO:List Nat→List Nat
 |[]=>[0,1,2]
 |x::l=>if x=5 then [3,5] else if x=6 then [4,6] else UO l
theorem Bv:∀l:List aG,bB l=UO (l.map kD)
 |[]=>rfl
 |o::l=>by
  show (if kD o=5 then [3,5] else if kD o=6 then [4,6] else bB l)=if kD o=5 then [3,5] else if kD o=6 then [4,6] else UO (l.map kD)
  rw[Bv l]
theorem MP:∀cs:List Nat,cs.length % 3=0→(opsL cs).map kD=Qy cs
 |[],_=>rfl
 |[_],h=>by simp at h
 |[_,_],h=>by simp at h
 |a::b::c::l,h=>by
  have ih:=MP l (by simp only[List.length_cons] at h;omega)
  show kD ((a:Int),(b:Int),(c:Int))::(opsL l).map kD=Qx a b::Qy l;rw[ih];rfl
theorem Uw {le lc:List aG}(h:le.map bG=lc.map bG):le.map kD=lc.map kD:=by
 have:=yV (List.map kD) h;rw[yC,yC] at this;exact this
theorem VK {o:aG}(h:uV o):NC o= !(Nat.beq (kD o) 0):=by
 obtain⟨k,j,h1,h2,h3,h4,h5⟩:=h;unfold NC kD;rw[h1,h2];simp only[Int.toNat_natCast];have hk:k=1∨k=2∨k=3∨k=4∨k=5∨k=6∨k=7∨k=8∨k=9∨k=10:=zy;rcases hk with rfl|rfl|rfl|rfl|rfl|rfl|rfl|rfl|rfl|rfl
 all_goals
  simp only[oV,List.mem_cons,List.not_mem_nil,or_false] at h5;rcases h5 with h5
  first
   |(rcases h5 with rfl|rfl|rfl|rfl|rfl|rfl|rfl|rfl<;>rfl)
   |(rcases h5 with rfl|rfl|rfl|rfl|rfl|rfl|rfl<;>rfl)
   |(rcases h5 with rfl|rfl|rfl|rfl<;>rfl)
   |(rcases h5 with rfl|rfl<;>rfl)
   |(subst h5;rfl)
theorem TF:∀{l:List aG},(∀o∈l,uV o)→l.any NC=(l.map kD).any fun x=>!(Nat.beq x 0)
 |[],_=>rfl
 |o::l,h=>by
  rw[xX,zO,xX,VK (h o zb),TF fun x hx=>h x (ze _ hx)]
theorem tC:∀{l:List Nat},isZero l=true→UO l=[0,1,2]∧(l.any fun x=>!(Nat.beq x 0))=false
 |[],_=>⟨rfl,rfl⟩
 |x::l,h=>by
  simp only[isZero,List.all_cons,Bool.and_eq_true] at h;obtain rfl:=(beq_iff _ _).1 h.1;obtain⟨h1,h2⟩:=tC (l:=l) h.2;exact⟨h1,h2⟩
theorem tF {q:Nat}{L:List Nat}(hq:q=5∧L=[3,5]∨q=6∧L=[4,6]):∀{l:List Nat},(l.all fun x=>Nat.beq x 0 || Nat.beq x q)=true→(l.any fun x=>Nat.beq x q)=true→UO l=L∧(l.any fun x=>!(Nat.beq x 0))=true
 |[],_,h=>by cases h
 |x::l,h,h'=>by
  simp only[List.all_cons,Bool.and_eq_true,Bool.or_eq_true] at h;rw[xX] at h';unfold UO;rcases h.1 with h0|h0
  ·obtain rfl:=(beq_iff _ _).1 h0;have hq0:Nat.beq 0 q=false:=by rcases hq with⟨rfl,_⟩|⟨rfl,_⟩<;>rfl
   rw[hq0,Bool.false_or] at h';obtain⟨h1,h2⟩:=tF hq h.2 h';rw[za zx,za zx];exact⟨h1,by rw[xX,h2];rfl⟩
  ·obtain rfl:=(beq_iff _ _).1 h0;rcases hq with⟨rfl,rfl⟩|⟨rfl,rfl⟩
   ·exact⟨rfl,rfl⟩
   ·exact⟨rfl,rfl⟩
theorem Qh {p:Nat}{d:bL}(h:akv p d)(hm:d.2.2.2.2.length % 3=0)(_hp:p≤6){lc:List aG}(hv:∀o∈lc,uV o)(hs:(opsL d.2.2.2.2).map bG=lc.map bG):p∈bB lc∧aje lc≤(p:Int)∧(p:Int)≤aiI lc:=by
 have e1:lc.map kD=Qy d.2.2.2.2:=by rw[← Uw hs,MP _ hm]
 have qP:=h.pg;rw[Bv,e1];unfold aje aiI;rw[TF hv,e1];generalize Qy d.2.2.2.2=il at qP;have nW:p=0∨p=1∨p=2∨p=3∨p=4∨p=5∨p=6:=zy;rcases nW with rfl|rfl|rfl|rfl|rfl|rfl|rfl
 ·obtain⟨a,b⟩:=tC qP;rw[a,b];simp
 ·obtain⟨a,b⟩:=tC qP;rw[a,b];simp
 ·obtain⟨a,b⟩:=tC qP;rw[a,b];simp
 all_goals
  simp only[Yo,Ns,Bool.and_eq_true] at qP
 ·obtain⟨a,b⟩:=tF (.inl ⟨rfl,rfl⟩) qP.1 qP.2;rw[a,b];simp
 ·obtain⟨a,b⟩:=tF (.inr ⟨rfl,rfl⟩) qP.1 qP.2;rw[a,b];simp
 ·obtain⟨a,b⟩:=tF (.inl ⟨rfl,rfl⟩) qP.1 qP.2;rw[a,b];simp
 ·obtain⟨a,b⟩:=tF (.inr ⟨rfl,rfl⟩) qP.1 qP.2;rw[a,b];simp
def Rk (s:ByteArray)(lc:List aG)(code:Int):Prop:=
 (code=0∧∃(p o:Nat) (d:bL),p≤6∧o < 256∧jd p o=some d∧kI s lc d=true)∨
 (code=2∧(∃(p o:Nat) (d:bL),p≤6∧o < 256∧jd p o=some d∧dO s lc d=true)∧∀(p o:Nat) (d:bL),p≤6→o < 256→jd p o=some d→kI s lc d=false)∨
 (code=11∧∀(p o:Nat) (d:bL),p≤6→o < 256→jd p o=some d→dO s lc d=false)
theorem kH {s:ByteArray}{lc:List aG}{d:bL}(h:kI s lc d=true):dO s lc d=true:=by
 unfold kI at h;simp only[Bool.and_eq_true] at h;exact h.1
theorem lv {s:ByteArray}{lc:List aG}{d:bL}(h:dO s lc d=true):d.1=1∧d.2.2.2.1=false∧ag d.2.1=s∧(opsL d.2.2.2.2).map bG=lc.map bG:=by
 unfold dO jo at h;simp only[Bool.and_eq_true,decide_eq_true_eq,Bool.not_eq_true'] at h;exact⟨h.1,h.2.1,h.2.2.1,h.2.2.2⟩
theorem Y6 {s:ByteArray}{lc:List aG}(hv:∀o∈lc,uV o){p o:Nat}{d:bL}(hp:p≤6)(hd:jd p o=some d)(h:dO s lc d=true):p∈bB lc∧aje lc≤(p:Int)∧(p:Int)≤aiI lc:=by
 obtain⟨h1,_,_,h4⟩:=lv h;exact Qh (jk hd h1) (eF hd).1 hp hv h4
noncomputable def aeE (ex:List Nat)(c:Nat):Option Bool:=Bc (dx OV 150 [.str ex,.int .u8 (.ofNat c)] ⟨0,[],[],bE⟩)
def Wy (f:List Nat→Bool):List (List Nat)→Bool
 |[]=>true
 |x::l=>cond (f x) (Wy f l) false
theorem Fh {f:List Nat→Bool}:∀{l:List (List Nat)} {x:List Nat},Wy f l=true→gV x l=true→f x=true
 |[],_,_,h=>by cases h
 |y::l,x,h,hx=>by
  unfold Wy at h
  cases hy:f y with
  |false=>rw[hy] at h;cases h
  |true=>
   rw[hy] at h;unfold gV at hx
   cases hq:gH x y with
   |true=>rw[bJ hq];exact hy
   |false=>
    rw[hq] at hx;exact Fh h hx
theorem aeD:Wy (fun ex=>kV (fun c=>bq (aeE ex c) (fG c ex)) aX) jQ=true:=by kernel_rfl
theorem ani {ex:List Nat}{c:Nat}(hx:gV ex jQ=true)(hc:c∈aX)(w:World)(hG:eT w):
 Calls Tryz.prog 150 #[.string (ag ex),.int .u8 (c:Int)] w fun e w'=>e= .returned (.bool (fG c ex))∧Below w.heap.size w w':=
 mV (args:=[.str ex,.int .u8 (.ofNat c)]) (aT fB nR) (show aeE ex c=some (fG c ex) from abh (bM (f:=fun c=>bq (aeE ex c) (fG c ex)) (Fh (f:=fun ex=>kV (fun c=>bq (aeE ex c) (fG c ex)) aX) aeD hx) hc)) ⟨trivial,trivial,trivial⟩ w hG
def Sz (c:Nat):Int×Int:=cond (Nat.ble c 101) (.negSucc 128,.ofNat 128) (cond (Nat.beq c 110) (.negSucc 0,.ofNat 256) (.negSucc 0,.ofNat 65536))
def YN (c j:Nat)(z:Int):AV:=match j with
 |0=>.sym [(.negSucc 9223372036854775807,(Sz c).1,true)] z
 |1=>.sym [((gJ c).1,(gJ c).2,true)] z
 |_=>.sym [((Sz c).2,.ofNat 9223372036854775807,true)] z
noncomputable def Ro (c j:Nat)(z:Int):Option Bool:=Bc (dx OV 82 [.int .u8 (.ofNat c),YN c j z] ⟨0,[],[],bE⟩)
theorem Xd (z:Int):kV (fun c=>kV (fun j=>bq (Ro c j z) (Nat.beq j 1)) [0,1,2]) aX=true:=by kernel_rfl
def oJ (c:Nat)(z:Int):Nat:=if z < (gJ c).1 then 0 else if (gJ c).2 < z then 2 else 1
theorem Ua (c:Nat)(z:Int):oJ c z∈[0,1,2]:=by
 unfold oJ;split
 ·simp
 ·split<;>simp
theorem Vo {c:Nat}(hc:c∈aX):(Sz c).1=(gJ c).1 - 1∧(Sz c).2=(gJ c).2+1:=by
 simp only[aX,List.mem_cons,List.not_mem_nil,or_false] at hc;rcases hc with rfl|rfl|rfl|rfl<;>exact⟨rfl,rfl⟩
theorem adT {c:Nat}{z:Int}(hc:c∈aX)(h:loI≤z∧z≤hiI):(YN c (oJ c z) z).ok 0∧cv iY (YN c (oJ c z) z)= .int .i64 z:=by
 rw[D6,En] at h;obtain⟨e1,e2⟩:=Vo hc;unfold oJ;by_cases h1:z < (gJ c).1
 ·rw[zW h1];exact⟨FM (lo:=.negSucc 9223372036854775807) zy (by rw[e1];omega),rfl⟩
 ·rw[za h1];by_cases h2:(gJ c).2 < z
  ·rw[zW h2];exact⟨FM (hi:=.ofNat 9223372036854775807) (by rw[e2];omega) (by show z≤(9223372036854775807:Int);omega),rfl⟩
  ·rw[za h2];exact⟨FM zy zy,rfl⟩
theorem Xb {c:Nat}{z:Int}(hc:c∈aX)(h:loI≤z∧z≤hiI)(w:World)(hG:eT w):
 Calls Tryz.prog 82 #[.int .u8 (c:Int),.int .i64 z] w fun e w'=>e= .returned (.bool (qO (gJ c).1 (gJ c).2 z))∧Below w.heap.size w w':=by
 obtain⟨h1,h2⟩:=adT hc h;have h3:=mV (args:=[.int .u8 (.ofNat c),YN c (oJ c z) z]) (aT fB nR) (show Ro c (oJ c z) z=some (Nat.beq (oJ c z) 1) from abh (bM (f:=fun j=>bq (Ro c j z) (Nat.beq j 1)) (bM (f:=fun c=>kV (fun j=>bq (Ro c j z) (Nat.beq j 1)) [0,1,2]) (Xd z) hc) (Ua c z))) ⟨trivial,h1,trivial⟩ w hG
 have e:(aH iY [.int .u8 (.ofNat c),YN c (oJ c z) z]).toArray=#[.int .u8 (c:Int),.int .i64 z]:=by
  simp only[aH,h2];rfl
 rw[e] at h3
 have e2:Nat.beq (oJ c z) 1=qO (gJ c).1 (gJ c).2 z:=by
  unfold oJ qO;by_cases h1:z < (gJ c).1
  ·rw[zW h1,zN zy];rfl
  ·rw[za h1,zC (by omega:(gJ c).1≤z)]
   by_cases h2:(gJ c).2 < z
   ·rw[zW h2,zN zy];rfl
   ·rw[za h2,zC zy];rfl
 rw[e2] at h3;exact h3
theorem X8 {a:Nat}{ex:List Nat}{l:List aG}{k:Nat}{o:aG}(hk:l[k]? =some o)(h:a=Nc ex o (l.drop (k+1))):(a:Int)=(bP ex l k:Int):=by
 unfold bP;rw[hk];exact yV _ h
theorem lM {a b:Int}(h:a=b):Ending.returned (.int .u8 a)= .returned (.int .u8 b):=by rw[h]
theorem Qn (pg o:Value)(s:ByteArray)(ex:List Nat)(al:Value)(A:Option Addr)(l:List aG)(n c k:Nat)(w:World)(p:Nat→Prop)(hx:gV ex jQ=true)(hn:n=l.length)(hm:l.length≤1000)(hk:k < n)(h:Rd w p A (dD l))(hG:∀W,Below w.heap.size w W→eT W):
 Calls Tryz.prog 81 #[.agg #[pg,o,.string s,.slice A n c,.string (ag ex),al],.int .i64 (k:Int)] w fun e w'=>e= .returned (.int .u8 (bP ex l k))∧Below w.heap.size w w':=by
 have C:Hid (∀W (t:Nat),t∈aX→Below w.heap.size w W→Calls Tryz.prog 150 #[.string (ag ex),.int .u8 (t:Int)] W fun e w'=>e= .returned (.bool (fG t ex))∧Below W.heap.size W w'):=fun W t ht hb=>ani hx ht W (hG W hb)
 have CD:Hid (∀W,Below w.heap.size w W→Calls Tryz.prog 150 #[.string (ag ex),.int .u8 100] W fun e w'=>e= .returned (.bool (fG 100 ex))∧Below W.heap.size W w'):=fun W hb=>C.out W 100 (by simp[aX]) hb
 have CE:Hid (∀W,Below w.heap.size w W→Calls Tryz.prog 150 #[.string (ag ex),.int .u8 101] W fun e w'=>e= .returned (.bool (fG 101 ex))∧Below W.heap.size W w'):=fun W hb=>C.out W 101 (by simp[aX]) hb
 have CN:Hid (∀W,Below w.heap.size w W→Calls Tryz.prog 150 #[.string (ag ex),.int .u8 110] W fun e w'=>e= .returned (.bool (fG 110 ex))∧Below W.heap.size W w'):=fun W hb=>C.out W 110 (by simp[aX]) hb
 have CW:Hid (∀W,Below w.heap.size w W→Calls Tryz.prog 150 #[.string (ag ex),.int .u8 119] W fun e w'=>e= .returned (.bool (fG 119 ex))∧Below W.heap.size W w'):=fun W hb=>C.out W 119 (by simp[aX]) hb
 have hk1:k < l.length:=by rw[← hn];exact hk
 obtain⟨a,ha⟩:∃a,l[k]? =some a:=⟨_,zg hk1⟩;have HR:=zo (h.after (zh w.heap.size w));obtain⟨q,off,rfl,_,b0,b1,b2⟩:=h.o3 ha;have HZ:Hid (∀t,t=Nc ex a (l.drop (k+1))→(t:Int)=(bP ex l k:Int)):=fun t ht=>X8 ha ht
 have HN:=zo hn;have hni:(n:Int)≤1000:=zy;clear C hx hG ha hk1 hn hm h;have H0:Hid (Bk (w.alloc (.cells #[pg,o,.string s,.slice (some ⟨q,off,none⟩) n c,.string (ag ex),al] 95)) w.heap.size 95 [pg,o,.string s,.slice (some ⟨q,off,none⟩) n c,.string (ag ex),al]∧Below w.heap.size w (w.alloc (.cells #[pg,o,.string s,.slice (some ⟨q,off,none⟩) n c,.string (ag ex),al] 95))):=⟨Bk.new w _ _,(zh _ _).alloc (zn _) _⟩;have c0:=um (.cells #[pg,o,.string s,.slice (some ⟨q,off,none⟩) n c,.string (ag ex),al] 95) b0;have c1:=um (.cells #[pg,o,.string s,.slice (some ⟨q,off,none⟩) n c,.string (ag ex),al] 95) b1;have c2:=um (.cells #[pg,o,.string s,.slice (some ⟨q,off,none⟩) n c,.string (ag ex),al] 95) b2;obtain⟨k0,r0,n0⟩:=a;simp only at b0 b1 b2 c0 c1 c2;clear b0 b1 b2;have H1:Hid (Bk ((w.alloc (.cells #[pg,o,.string s,.slice (some ⟨q,off,none⟩) n c,.string (ag ex),al] 95)).alloc (.cells #[.int .i64 k0,.int .i64 r0,.int .i64 n0] 174)) w.heap.size 95 [pg,o,.string s,.slice (some ⟨q,off,none⟩) n c,.string (ag ex),al]∧Below w.heap.size w ((w.alloc (.cells #[pg,o,.string s,.slice (some ⟨q,off,none⟩) n c,.string (ag ex),al] 95)).alloc (.cells #[.int .i64 k0,.int .i64 r0,.int .i64 n0] 174))):=⟨H0.1.alloc _,H0.2.alloc H0.2.size _⟩
 have H2:Hid (Bk ((w.alloc (.cells #[pg,o,.string s,.slice (some ⟨q,off,none⟩) n c,.string (ag ex),al] 95)).alloc (.cells #[.int .i64 k0,.int .i64 r0,.int .i64 n0] 174)) (w.heap.size+1) 174 [.int .i64 k0,.int .i64 r0,.int .i64 n0]):=by
  have:=Bk.new (w.alloc (.cells #[pg,o,.string s,.slice (some ⟨q,off,none⟩) n c,.string (ag ex),al] 95)) 174 [.int .i64 k0,.int .i64 r0,.int .i64 n0];rwa [zU] at this
 unfold Nc at HZ;generalize fG 100 ex=d100 at CD HZ;generalize fG 101 ex=d101 at CE HZ;generalize fG 110 ex=d110 at CN HZ;generalize fG 119 ex=d119 at CW HZ;by_cases h5:k0=5
 ·subst h5;have HZ0:Hid (d100=true→(100:Int)=(bP ex l k:Int)):=fun e=>HZ.out 100 (by subst e;rfl)
  have HZ1:Hid (d100=false→(0:Int)=(bP ex l k:Int)):=fun e=>HZ.out 0 (by subst e;rfl)
  clear HZ CN CW CE
  cases d100
  ·have HZ:=zo (HZ1.out rfl);clear HZ0 HZ1;go_enter Tryz.func81,Tryz.ntmps81
   go_wp2_with (go_at_call 150;refine (CD.out _ H1.2).mono ?_;rintro e w1 ⟨rfl,hb⟩;have HB1:=zo (H1.2.trans (hb.mono H1.2.size));have y0:=(H2.after hb).cell 0 rfl;clear hb)
   go_ret;exact⟨lM HZ.out,HB1.out⟩
  ·have HZ:=zo (HZ0.out rfl);clear HZ0 HZ1;go_enter Tryz.func81,Tryz.ntmps81
   go_wp2_with (go_at_call 150;refine (CD.out _ H1.2).mono ?_;rintro e w1 ⟨rfl,hb⟩;have HB1:=zo (H1.2.trans (hb.mono H1.2.size));have y0:=(H2.after hb).cell 0 rfl;clear hb)
   go_ret;exact⟨lM HZ.out,HB1.out⟩
 have e5:(k0 == 5)=false:=xe.2 h5;by_cases h10:k0=10
 ·subst h10;have HZ0:Hid (d101=true→(101:Int)=(bP ex l k:Int)):=fun e=>HZ.out 101 (by subst e;rfl)
  have HZ1:Hid (d101=false→(0:Int)=(bP ex l k:Int)):=fun e=>HZ.out 0 (by subst e;rfl)
  clear HZ CN CW CD
  cases d101
  ·have HZ:=zo (HZ1.out rfl);clear HZ0 HZ1;go_enter Tryz.func81,Tryz.ntmps81
   go_wp2_with (go_at_call 150;refine (CE.out _ H1.2).mono ?_;rintro e w1 ⟨rfl,hb⟩;have HB1:=zo (H1.2.trans (hb.mono H1.2.size));have y0:=(H2.after hb).cell 0 rfl;clear hb)
   go_ret;exact⟨lM HZ.out,HB1.out⟩
  ·have HZ:=zo (HZ0.out rfl);clear HZ0 HZ1;go_enter Tryz.func81,Tryz.ntmps81
   go_wp2_with (go_at_call 150;refine (CE.out _ H1.2).mono ?_;rintro e w1 ⟨rfl,hb⟩;have HB1:=zo (H1.2.trans (hb.mono H1.2.size));have y0:=(H2.after hb).cell 0 rfl;clear hb)
   go_ret;exact⟨lM HZ.out,HB1.out⟩
 have e10:(k0 == 10)=false:=xe.2 h10;by_cases h6:k0≠6∧k0≠7
 ·have HX:Hid ((0:Int)=(bP ex l k:Int)):=HZ.out 0 (by
   have h1:(k0 == 6)=false:=xe.2 h6.1;have h2:(k0 == 7)=false:=xe.2 h6.2;simp[isNum,e5,e10,h1,h2])
  have e6:(k0 != 6)=true:=bne_iff_ne.2 h6.1;have e7:(k0 != 7)=true:=bne_iff_ne.2 h6.2;clear h5 h10 h6 HZ CN CW CD CE;go_enter Tryz.func81,Tryz.ntmps81;go_wp2;go_ret;exact⟨lM HX.out,H1.2⟩
 have HI:Hid (isNum (k0,r0,n0)=true):=by
  unfold isNum Hid;by_cases h:k0=6
  ·subst h;rfl
  ·have h7:k0=7:=xy fun e=>h6 ⟨h,e⟩
   subst h7;rfl
 have HJ:Hid ((l.drop (k+1)).any isNum=true→(0:Int)=(bP ex l k:Int)):=fun e=>HZ.out 0 (by simp[e5,e10,HI.out,e])
 have HK:Hid ((l.drop (k+1)).any isNum=false→d110=true→(110:Int)=(bP ex l k:Int)):=fun e h=>HZ.out 110 (by simp[e5,e10,HI.out,e,h])
 have HL:Hid ((l.drop (k+1)).any isNum=false→d110=false→d119=true→(119:Int)=(bP ex l k:Int)):=fun e h h'=>HZ.out 119 (by simp[e5,e10,HI.out,e,h,h'])
 have HM:Hid ((l.drop (k+1)).any isNum=false→d110=false→d119=false→(0:Int)=(bP ex l k:Int)):=fun e h h'=>HZ.out 0 (by simp[e5,e10,HI.out,e,h,h'])
 clear h5 h10 HZ CD CE HI
 have e67:Hid (((k0 != 6)=true∧(k0 != 7)=false)∨(k0 != 6)=false):=by
  unfold Hid;by_cases h:k0=6
  ·exact .inr (by subst h;rfl)
  ·have h7:k0=7:=xy fun e=>h6 ⟨h,e⟩
   exact .inl ⟨bne_iff_ne.2 h,by subst h7;rfl⟩
 clear h6;rcases e67.out with⟨e6,e7⟩|e6<;>clear e67
 all_goals
  go_enter Tryz.func81,Tryz.ntmps81;go_wp2;generalize ((w.alloc (.cells #[pg,o,.string s,.slice (some ⟨q,off,none⟩) n c,.string (ag ex),al] 95)).alloc (.cells #[.int .i64 k0,.int .i64 r0,.int .i64 n0] 174))=W0 at H1 H2 ⊢;have x1:=H1.1.cell 3 rfl
  go_loop [6] (fun v=>∃m:Nat,v= .int .i64 (m:Int)∧k < m∧m≤n∧Hid (∀(j:Nat) (t:aG),k < j→j < m→l[j]? =some t→isNum t=false)) (fun v=>n - (intOf v).toNat)
  case atStart=>exact⟨k+1,by go_num,zy,zy,fun j _ h1 h2=>absurd h1 zy⟩
  case round=>
   obtain⟨m,rfl,hkm,hmn,hr⟩:=hrel;by_cases hlt:m < n
   ·have hm1:m < l.length:=by rw[← HN.out];exact hlt
    obtain⟨b,hb⟩:∃b,l[m]? =some b:=⟨_,zg hm1⟩;obtain⟨q',off',hq,_,f0,_,_⟩:=(HR.after H1.2).o3 hb
    obtain⟨rfl,rfl⟩:q=q'∧off=off':=by
     have:=Addr.mk.inj (zq hq);exact⟨this.1,this.2.1⟩
    have HY:Hid (isNum b=true→(0:Int)=(bP ex l k:Int)):=fun e=>HJ.out (xY.2 ⟨b,by
     rw[wS];refine⟨m - (k+1),?_⟩;rw[yg,show k+1+(m - (k+1))=m by omega]
     exact hb,e⟩)
    have HV:Hid (isNum b=false→∀(j:Nat) (t:aG),k < j→j < m+1→l[j]? =some t→isNum t=false):=fun e j t h1 h2 h3=>by
     by_cases hj:j=m
     ·subst hj;rw[hb] at h3;rw[← zq h3];exact e
     ·exact hr.out j t h1 zy h3
    have HF:Hid (((b.1 == 6)=true∧isNum b=true)∨((b.1 == 6)=false∧(((b.1 == 7)=true∧isNum b=true)∨((b.1 == 7)=false∧isNum b=false)))):=by
     unfold isNum Hid
     cases (b.1 == 6)<;>cases (b.1 == 7)<;>simp
    clear hb hq;generalize isNum b=bb at HY HV HF;generalize b.1=kb at f0 HF;rcases HF.out with⟨d1,rfl⟩|⟨d1,⟨d2,rfl⟩|⟨d2,rfl⟩⟩<;>clear HF
    ·have HX:=zo (HY.out rfl);clear HY HV;go_wp2;go_ret;exact⟨lM HX.out,H1.2⟩
    ·have HX:=zo (HY.out rfl);clear HY HV;go_wp2;go_ret;exact⟨lM HX.out,H1.2⟩
    ·have HX:=zo (HV.out rfl);clear HY HV;go_wp2
     go_round
     case rel=>exact⟨m+1,by go_num,zy,zy,HX.out⟩
     case measure=>simp[intOf];omega
   ·have HA:Hid ((l.drop (k+1)).any isNum=false):=by
     show _=_;rw[List.any_eq_false];intro t ht;obtain⟨j,hj⟩:=wS.1 ht;rw[yg] at hj;have:=(zf.1 hj).1;have:=hr.out (k+1+j) t zy (by have:=HN.out;omega) hj
     simp[this]
    have HK':=zo (HK.out HA.out);have HL':=zo (HL.out HA.out);have HM':=zo (HM.out HA.out);clear HJ HK HL HM HA hr;have x4:=H1.1.cell 4 rfl
    cases d110
    ·cases d119
     ·have HX:=zo (HM'.out rfl rfl);clear HK' HL' HM'
      go_wp2_with (first
       |(go_at_call 150;refine (CW.out _ HB1.out).mono ?_;rintro e w2 ⟨rfl,hb⟩;have HB2:=zo (HB1.trans (hb.mono HB1.size));clear hb)
       |(go_at_call 150;refine (CN.out _ H1.2).mono ?_;rintro e w1 ⟨rfl,hb⟩;have HB1:=zo (H1.2.trans (hb.mono H1.2.size));have y4:=(H1.1.after hb).cell 4 rfl;clear hb))
      go_ret;exact⟨lM HX.out,HB2.out⟩
     ·have HX:=zo (HL'.out rfl rfl);clear HK' HL' HM'
      go_wp2_with (first
       |(go_at_call 150;refine (CW.out _ HB1.out).mono ?_;rintro e w2 ⟨rfl,hb⟩;have HB2:=zo (HB1.trans (hb.mono HB1.size));clear hb)
       |(go_at_call 150;refine (CN.out _ H1.2).mono ?_;rintro e w1 ⟨rfl,hb⟩;have HB1:=zo (H1.2.trans (hb.mono H1.2.size));have y4:=(H1.1.after hb).cell 4 rfl;clear hb))
      go_ret;exact⟨lM HX.out,HB2.out⟩
    ·have HX:=zo (HK'.out rfl);clear HK' HL' HM'
     go_wp2_with (go_at_call 150;refine (CN.out _ H1.2).mono ?_;rintro e w1 ⟨rfl,hb⟩;have HB1:=zo (H1.2.trans (hb.mono H1.2.size));have y4:=(H1.1.after hb).cell 4 rfl;clear hb)
     go_ret;exact⟨lM HX.out,HB1.out⟩
structure FnW (w W:World)(s:ByteArray)(A:Option Addr)(n c:Nat)(b5:Nat)(A5:Option Addr)(n5 c5:Nat)(lc:List aG):Prop where
 b0:Bk W w.heap.size 28 [.string s,.slice A n c]
 b1:Bk W (w.heap.size+1) 95 [.int .i64 0,.int .u8 0,.string ⟨#[]⟩,.slice none 0 0,.string ⟨#[]⟩,.bool false]
 b5:Bk W b5 28 [.string s,.slice A5 n5 c5]
 r5:Rd W (fun _=>True) A5 (dD lc)
 bl:Below w.heap.size w W
theorem FnW.after {w W W':World}{s:ByteArray}{A:Option Addr}{n c b5:Nat}{A5:Option Addr}{n5 c5:Nat}{lc:List aG}(h:FnW w W s A n c b5 A5 n5 c5 lc)(hb:Below W.heap.size W W'):FnW w W' s A n c b5 A5 n5 c5 lc:=
 ⟨h.b0.after hb,h.b1.after hb,h.b5.after hb,h.r5.after hb,h.bl.trans (hb.mono h.bl.size)⟩
theorem Ib {s:ByteArray}{lc:List aG}{d:bL}(h:dO s lc d=false):kI s lc d=false:=by
 unfold kI;rw[h];rfl
