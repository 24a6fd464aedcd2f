/- Parts of the proof of TopLines. -/
import Derived.Test.YtpjjgpjhpobkiaaGreatDoorMK10
import Derived.Test.YtpjjgpjhpobkiaaGreatDoorMK11
import Derived.Shelf.RegionOpen
import Derived.OwnWalkIn
import Derived.LoopIn
set_option maxHeartbeats 16000000
set_option maxRecDepth 100000
namespace Go.Proofs.YtpjjgpjhpobkiaaGreatDoor
namespace Ex
open Go.RowKit
def FP:Nat→List Nat
 |0=>dN
 |1=>oW
 |2=>kR
 |3=>dN
 |4=>dN
 |_=>oW
def eZ:Nat→List (List Nat)
 |0=>bY
 |1=>lL
 |2=>jG
 |3=>bY
 |4=>bY
 |_=>lL
def SA:List (List Nat)→Nat→List Nat
 |[],_=>[]
 |r::l,op=>cond (AB r op 0 8) r (SA l op)
def lkB:List (List Nat)→Nat→Bool
 |[],_=>false
 |r::l,op=>cond (AB r op 0 8) true (lkB l op)
theorem M7:∀(l:List (List Nat)) (op:Nat),o9 l op= .tuple [.str (SA l op),.bool (lkB l op)]
 |[],_=>rfl
 |r::l,op=>by
  unfold o9 SA lkB
  cases AB r op 0 8
  ·exact M7 l op
  ·rfl
theorem Jy {p:Nat}(_hp:p≤6)(w:World):Calls Tryz.prog 244 #[.int .i64 (p:Int)] w fun e w'=>e= .returned (.string (ag (FP p)))∧w'=w:=by
 obtain rfl|rfl|rfl|rfl|rfl|rfl|rfl:p=0∨p=1∨p=2∨p=3∨p=4∨p=5∨p=6:=zy
 all_goals
  go_enter Tryz.func244,Tryz.ntmps244;go_wp2;go_ret;exact⟨rfl,rfl⟩
theorem Xe {p:Nat}{nm:List Nat}(h:nm∈fe):eU (FP p) (eZ p) nm=true:=by
 unfold FP eZ;split
 ·exact vC h
 ·exact Rn h
 ·exact acs h
 ·exact vC h
 ·exact vC h
 ·exact Rn h
theorem Xc {nm:List Nat}(h:nm∈fe)(p:Nat)(w:World)(hG:eT w):Calls Tryz.prog 243 #[.string (ag (FP p)),.string (ag nm)] w fun e w'=>∃A c,e= .returned (.slice A (gB nm (eZ p)).length c)∧Rd w' (fun b=>w.heap.size≤b) A (FE ((gB nm (eZ p)).map ag))∧Below w.heap.size w w':=
 Oo (aT fB p8) (afY (Xe (p:=p) h)) ⟨trivial,trivial,trivial⟩ w hG
theorem Qj (p:Nat){o:Nat}(ho:o < 256)(w:World)(hG:eT w):Calls Tryz.prog 247 #[.string (ag (FP p)),.int .u8 (o:Int)] w fun e w'=>e= .returned (.tuple #[.string (ag (SA (eZ p) o)),.bool (lkB (eZ p) o)])∧Below w.heap.size w w':=by
 have hr:dx S1 247 [.str (FP p),.int .u8 (.ofNat o)] ⟨0,[],[],bE⟩=some (.tuple [.str (SA (eZ p) o),.bool (lkB (eZ p) o)],⟨6,[],[],bE⟩):=by
  rw[← M7];unfold FP eZ;split
  ·exact Cr o ho
  ·exact aa9 o ho
  ·exact agL o ho
  ·exact Cr o ho
  ·exact Cr o ho
  ·exact aa9 o ho
 refine (qJ (aT fB BO) hr rfl ⟨trivial,trivial,trivial⟩ w hG).mono ?_;rintro e w' ⟨ρ,rfl,_,hb⟩;exact⟨rfl,hb⟩
def UW (nm:List Nat)(p o:Nat):Bool:=Ww o (gB nm (eZ p))
def UX (nm:List Nat)(p o:Nat):Bool:=gV (SA (eZ p) o) (gB nm (eZ p))
def agb (p o:Nat)(d:bL):Bool:=match d.1 with
 |1=>UW d.2.1 p o && UX d.2.1 p o
 |_=>true
theorem Va:allT agb 0 DF=true:=by kernel_rfl
theorem ail {p o:Nat}{d:bL}(hd:jd p o=some d)(h1:d.1=1):UW d.2.1 p o=true∧UX d.2.1 p o=true:=by
 have h:=dL Va hd;unfold agb at h;rw[h1] at h
 simpa only[Bool.and_eq_true] using h
theorem adb:allM ltB (bY++lL++jG)=true:=by kernel_rfl
theorem Mi {p:Nat}{r:List Nat}(h:r∈eZ p):r∈bY++lL++jG:=by
 unfold eZ at h;simp only[List.mem_append];split at h<;>simp[h]
theorem RX {p:Nat}{r:List Nat}(h:r∈eZ p):∀x∈r,x < 256:=fun _ hx=>aK (bM (f:=fun x=>Nat.blt x 256) (aU adb (Mi h)) hx)
theorem XT:allM (fun r=>Nat.ble r.length 1000) (bY++lL++jG)=true:=by kernel_rfl
theorem ahF {p:Nat}{r:List Nat}(h:r∈eZ p):r.length≤1000:=zk (aU (f:=fun r=>Nat.ble r.length 1000) XT (Mi h))
theorem qA {nm:List Nat}:∀{l:List (List Nat)} {r:List Nat},r∈gB nm l→r∈l
 |[],r,h=>by cases h
 |x::l,r,h=>by
  unfold gB at h
  cases hx:gH (Xa x) nm with
  |false=>rw[hx] at h;exact ze _ (qA h)
  |true=>
   rw[hx] at h;rcases zQ.1 h with rfl|h
   ·exact zb
   ·exact ze _ (qA h)
theorem vE {nm:List Nat}:∀{l:List (List Nat)},(gB nm l).length≤l.length
 |[]=>zn _
 |x::l=>by
  have:=vE (nm:=nm) (l:=l);unfold gB
  cases gH (Xa x) nm
  ·exact Nat.le_succ_of_le this
  ·simpa using this
theorem Mj (p:Nat):(eZ p).length≤1000:=by
 unfold eZ;split<;>decide
theorem Sq:∀{l:List (List Nat)} {o:Nat},SA l o∈l∨SA l o=[]
 |[],_=>.inr rfl
 |r::l,o=>by
  unfold SA
  cases AB r o 0 8
  ·rcases Sq (l:=l) (o:=o) with h|h
   ·exact .inl (ze _ h)
   ·exact .inr h
  ·exact .inl zb
theorem ad5 (p o:Nat):∀x∈SA (eZ p) o,x < 256:=by
 rcases Sq (l:=eZ p) (o:=o) with h|h
 ·exact RX h
 ·rw[h];intro x hx;cases hx
theorem uG:∀l:List Nat,gH l l=true
 |[]=>rfl
 |x::l=>by
  unfold gH;rw[show Nat.beq x x=true from (beq_iff _ _).2 rfl]
  exact uG l
theorem Hg (x:List Nat):∀l:List (List Nat),gV x l=qN x l
 |[]=>rfl
 |y::l=>by
  have ih:=Hg x l;unfold gV qN;unfold qN at ih;rw[xX,ih]
  cases he:gH x y with
  |true=>
   obtain rfl:=bJ he;simp
  |false=>
   have hne:¬y=x:=fun e=>by
    subst e;rw[uG] at he
    cases he
   simp[hne]
theorem Y5 {x:List Nat}(hx:∀a∈x,a < 256){l:List (List Nat)}(h:∀r∈l,∀a∈r,a < 256):((l.map ag).any fun t=>decide (ag x=t))=gV x l:=by
 rw[Hg,DX hx h]
end Ex
section
open Go.RowKit Ex
theorem ajG:El Tryz.prog 282 133 (.agg #[.int .i64 0,.int .u8 0,.string ⟨#[]⟩,.slice none 0 0,.string ⟨#[]⟩,.bool false]) 6 80:=⟨Tryz.underlying282,zz,rfl,zx⟩
abbrev gy:=(Nat×Nat)×bL×Option Addr×Nat
def di (x:gy):List Value:=[.int .i64 (x.1.1:Int),.int .u8 (x.1.2:Int),.string (ag x.2.1.2.1),.slice x.2.2.1 (x.2.1.2.2.2.2.length / 3) x.2.2.2,.string (ag x.2.1.2.2.1),.bool x.2.1.2.2.2.1]
def pO (L:List gy):List Value:=L.flatMap di
theorem QG (L:List gy)(x:gy):pO (L++[x])=pO L++di x:=by simp[pO]
structure dF (B:Nat)(w:World)(x:gy):Prop where
 d:jd x.1.1 x.1.2=some x.2.1
 k:x.2.1.1=1
 o:x.1.2 < 256
 r:gF B w x.2.2.1 x.2.2.2 (lN x.2.1)
theorem dF.after {B:Nat}{w w':World}{x:gy}(h:dF B w x)(hb:Below w.heap.size w w'):dF B w' x:=⟨h.d,h.k,h.o,h.r.after hb⟩
theorem dF.mono {B B':Nat}{w:World}{x:gy}(h:dF B w x)(hB:B'≤B):dF B' w x:=⟨h.d,h.k,h.o,h.r.mono hB⟩
theorem Ex.gF.grown {B base:Nat}{w w':World}{A:Option Addr}{c:Nat}{vs:List Value}{v:Value}{n:Nat}{xs:List Value}(h:gF B w A c vs)(ho:w.ownsRow base 133 6 v n xs)(hg:w.grownBy w' v.ownBlock):gF B w' A c vs:=by
 rcases h with h|⟨h0,q,m,cur,rfl,hB,hh,h'⟩
 ·exact .inl h
 ·exact .inr ⟨h0,q,m,cur,rfl,hB,(hg.block q (lt_of_heap hh) (own_ne ho hh zx)).trans hh,h'⟩
theorem dF.grown {B base:Nat}{w w':World}{x:gy}{v:Value}{n:Nat}{xs:List Value}(h:dF B w x)(ho:w.ownsRow base 133 6 v n xs)(hg:w.grownBy w' v.ownBlock):dF B w' x:=⟨h.d,h.k,h.o,h.r.grown ho hg⟩
def Done (nm:List Nat)(ps:List Nat)(i o:Nat)(L:List gy):Prop:=∀(p' o':Nat) (d:bL),((∃j,j < i∧ps[j]? =some p'∧o' < 256)∨(ps[i]? =some p'∧o' < o))→jd p' o'=some d→d.1=1→d.2.1=nm→∃x,x∈L∧x.1=(p',o')∧x.2.1=d
theorem Done.mono {nm ps:List Nat}{i o:Nat}{L L':List gy}(h:Done nm ps i o L)(hL:∀x,x∈L→x∈L'):Done nm ps i o L':=fun p' o' d h1 h2 h3 h4=>let ⟨x,hx,h5⟩:=h p' o' d h1 h2 h3 h4;⟨x,hL x hx,h5⟩
theorem Done.skip {nm ps:List Nat}{i o p:Nat}{d:bL}{L:List gy}(h:Done nm ps i o L)(hp:ps[i]? =some p)(hd:jd p o=some d)(hn:d.1=1→d.2.1=nm→∃x,x∈L∧x.1=(p,o)∧x.2.1=d):Done nm ps i (o+1) L:=fun p' o' d' h1 h2 h3 h4=>by
 rcases h1 with h1|⟨h1,h1'⟩
 ·exact h p' o' d' (.inl h1) h2 h3 h4
 ·by_cases ho:o'=o
  ·subst ho;rw[hp] at h1;obtain rfl:=zq h1;rw[hd] at h2;obtain rfl:=zq h2;exact hn h3 h4
  ·exact h p' o' d' (.inr ⟨h1,zy⟩) h2 h3 h4
theorem Done.page {nm ps:List Nat}{i:Nat}{L:List gy}(h:Done nm ps i 256 L):Done nm ps (i+1) 0 L:=fun p' o' d' h1 h2 h3 h4=>by
 rcases h1 with⟨j,hj,h1,h1'⟩|⟨_,h1'⟩
 ·by_cases hji:j=i
  ·subst hji;exact h p' o' d' (.inr ⟨h1,h1'⟩) h2 h3 h4
  ·exact h p' o' d' (.inl ⟨j,zy,h1,h1'⟩) h2 h3 h4
 ·exact absurd h1' (yf _)
theorem Done.nil (nm ps:List Nat):Done nm ps 0 0 []:=fun p' o' d' h1=>by
 rcases h1 with⟨j,hj,_⟩|⟨_,h1'⟩
 ·exact absurd hj (yf _)
 ·exact absurd h1' (yf _)
structure Ga (w W:World)(nm ps:List Nat)(v:Value)(L:List gy)(i o:Nat):Prop where
 own:W.ownsRow w.heap.size 133 6 v L.length (pO L)
 len:L.length≤256 * i+o
 ok:∀x,x∈L→dF w.heap.size W x∧x.1.1∈ps
 all:Done nm ps i o L
 bl:Below w.heap.size w W
section
variable {w W W':World} {nm ps:List Nat} {v v':Value} {L:List gy} {i o p:Nat} {d:bL}
theorem Ga.start (w:World)(nm ps:List Nat):Ga w w nm ps (.slice none 0 0) [] 0 0:=⟨yx _ _ _ _,zF _,fun x hx=>(by cases hx),Done.nil _ _,zh _ _⟩
theorem Ga.after (h:Ga w W nm ps v L i o)(hb:Below W.heap.size W W'):Ga w W' nm ps v L i o:=⟨mr h.own hb,h.len,fun x hx=>⟨(h.ok x hx).1.after hb,(h.ok x hx).2⟩,h.all,h.bl.trans (hb.mono h.bl.size)⟩
theorem Ga.skip (h:Ga w W nm ps v L i o)(hp:ps[i]? =some p)(hd:jd p o=some d)(hn:d.1=1→d.2.1=nm→False):Ga w W nm ps v L i (o+1):=⟨h.own,by have:=h.len;omega,h.ok,h.all.skip hp hd fun a b=>(hn a b).elim,h.bl⟩
theorem Ga.page (h:Ga w W nm ps v L i 256):Ga w W nm ps v L (i+1) 0:=⟨h.own,by have:=h.len;omega,h.ok,h.all.page,h.bl⟩
theorem Ga.push {A:Option Addr}{c:Nat}{B:Nat}(h:Ga w W nm ps v L i o)(hB:w.heap.size≤B)(hp:ps[i]? =some p)(hd:jd p o=some d)(hk:d.1=1)(ho:o < 256)(hr:gF B W A c (lN d))(hown:W'.ownsRow w.heap.size 133 6 v' (L.length+1) (pO L++di ((p,o),d,A,c)))(hg:W.grownBy W' v.ownBlock)(hs:w.heap.size≤W.heap.size):Ga w W' nm ps v' (L++[((p,o),d,A,c)]) i (o+1):=by
 refine⟨?_,?_,?_,?_,?_⟩
 ·rw[zL,QG];exact hown
 ·rw[zL];have:=h.len;simp only[List.length_cons,List.length_nil];omega
 ·intro x hx;rcases zA.1 hx with hx|hx
  ·exact⟨(h.ok x hx).1.grown h.own hg,(h.ok x hx).2⟩
  ·obtain rfl:=zR.1 hx;exact⟨⟨hd,hk,ho,(hr.mono hB).grown h.own hg⟩,zD hp⟩
 ·exact (h.all.mono fun x hx=>xV _ hx).skip hp hd fun _ _=>⟨_,xC _ (zR.2 rfl),rfl,rfl⟩
 ·exact h.bl.grown hg hs fun j ej=>(h.own.lt j ej).1
theorem Yf {w w':World}{v v':Value}{A:Option Addr}{xs:List Value}(h:Rd w (fun b=>some b≠v.ownBlock∧b < w.heap.size) A xs)(hg:w.grownBy w' v.ownBlock)(hat:v'.ownBlock=v.ownBlock∨v'.ownBlock=some w.heap.size):Rd w' (fun b=>some b≠v'.ownBlock∧b < w'.heap.size) A xs:=fun hx=>by
 obtain⟨ad,rfl,⟨h1,h2⟩,h3⟩:=h hx;have hsz:w.heap.size≤w'.heap.size:=hg.size;refine⟨ad,rfl,⟨fun e=>?_,zy⟩,fun j u hu=>?_⟩
 ·rcases hat with e2|e2
  ·exact h1 (by rw[e,e2])
  ·rw[e2] at e;have:=zq e;omega
 ·have hc:=h3 j u hu;have e:(ad.add j).block=ad.block:=by unfold Addr.add;split<;>rfl
  rw[yz (w:=w) (hg.block _ (lt_of_cell hc) (by rw[e];exact h1))]
  exact hc
theorem adq {w w':World}{v:Value}{A:Option Addr}{xs:List Value}(h:Rd w (fun b=>some b≠v.ownBlock∧b < w.heap.size) A xs)(hb:Below w.heap.size w w'):Rd w' (fun b=>some b≠v.ownBlock∧b < w'.heap.size) A xs:=
 (h.after hb).jH fun _ hb'=>⟨hb'.1,zZ hb'.2 hb.size⟩
end
theorem ajY {p o:Nat}{d:bL}(hd:jd p o=some d)(hk:d.1≠1)(w:World)(hG:eT w):
 Calls Tryz.prog 248 #[.int .i64 (p:Int),.int .u8 (o:Int)] w fun e w'=>∃(p' o':Int) (nm ex:ByteArray) (al:Bool) (A:Option Addr) (n c:Nat) (k:Int),e= .returned (.tuple #[.agg #[.int .i64 p',.int .u8 o',.string nm,.slice A n c,.string ex,.bool al],.int .i64 k])∧(k == 1)=false∧Below w.heap.size w w':=by
 refine (Ff hd w hG).mono ?_;rintro e w' ⟨p',o',nm,ex,al,A,n,c,rfl,hb⟩;refine⟨p',o',nm,ex,al,A,n,c,d.1,rfl,?_,hb⟩;rw[xe];omega
theorem VX (A:Option Addr)(n c:Nat)(w:World)(_hn:0 < n)(_hm:(n:Int)≤1000):Calls Tryz.prog 242 #[.slice A n c] w fun e w'=>e= .returned (.slice A n c)∧w'=w:=by
 have h1:(0:Int) < (n:Int):=zy;go_enter Tryz.func242,Tryz.ntmps242;go_wp2;go_ret;exact⟨rfl,rfl⟩
theorem JM:allT (fun _ _ d=>Nat.ble d.2.1.length 1000) 0 DF=true:=by kernel_rfl
theorem DU {p o:Nat}{d:bL}(hd:jd p o=some d):d.2.1.length≤1000:=zk (dL (f:=fun _ _ d=>Nat.ble d.2.1.length 1000) JM hd)
theorem acQ {x:Nat}(h1:65≤x)(h2:x≤90):gQ (UInt8.ofNat x)=UInt8.ofNat x:=by
 unfold gQ
 have e:(UInt8.ofNat x).toNat=x:=by
  rw[wF];omega
 rw[za (by rw[e];omega)]
theorem adF {nm:List Nat}(h:nm∈fe):∀x∈nm,65≤x∧x≤90:=fun x hx=>by
 have h1:=aU PZ h;simp only[Bool.and_eq_true] at h1;have h2:=h1.1
 cases hb:Nat.ble nm.length 4 with
 |false=>rw[hb] at h2;cases h2
 |true=>
  rw[hb] at h2;have h3:=bM (f:=fun x=>cond (Nat.ble 65 x) (Nat.ble x 90) false) h2 hx
  cases ha:Nat.ble 65 x with
  |false=>rw[ha] at h3;cases h3
  |true=>
   rw[ha] at h3;exact⟨zk ha,zk h3⟩
theorem Rv {nm:List Nat}(h:∀x∈nm,65≤x∧x≤90):upS (ag nm)=ag nm:=by
 have e:(ag nm).data.toList.map gQ=(ag nm).data.toList:=by
  have e1:(ag nm).data.toList=nm.map UInt8.ofNat:=by simp[ag]
  rw[e1,yC];exact yt fun x hx=>acQ (h x hx).1 (h x hx).2
 unfold upS;rw[e]
theorem afm {nm:List Nat}(h:nm≠[]):ag nm≠⟨#[]⟩:=fun e=>by
 have:=yV ByteArray.size e;rw[aC] at this;exact h (yQ this)
def kU (x:gy):Value:=.agg (di x).toArray
theorem Kt {B:Nat}{w:World}{x:gy}(h:dF B w x):Rd w (fun _=>True) x.2.2.1 (dD (opsL x.2.1.2.2.2.2))∧x.2.1.2.2.2.2.length / 3=(opsL x.2.1.2.2.2.2).length∧(opsL x.2.1.2.2.2.2).length≤3:=by
 obtain⟨e1,e2,e3⟩:=PM h.d;have:=h.r.rd;rw[e1] at this;exact⟨this,e2.symm,e3⟩
theorem GD {B:Nat}{w:World}{x:gy}(h:dF B w x)(s:ByteArray)(hs:s.size≤1000)(A5:Option Addr)(n5 c5:Nat)(lc:List aG)(hn5:n5=lc.length)(_hl:lc.length≤3)(hr:Rd w (fun _=>True) A5 (dD lc)):
 Calls Tryz.prog 113 #[kU x,.agg #[.string s,.slice A5 n5 c5]] w fun e w'=>e= .returned (.bool (jo (ag x.2.1.2.1) s (opsL x.2.1.2.2.2.2) lc))∧Below w.heap.size w w':=by
 obtain⟨h1,h2,h3⟩:=Kt h;have:=DU h.d;exact PD _ _ (ag x.2.1.2.1) s _ _ x.2.2.1 A5 (opsL x.2.1.2.2.2.2) lc _ n5 x.2.2.2 c5 w _ _ (by rw[aC];omega) hs h2 hn5 zy zy h1 hr
def aeS (d:bL)(lc:List aG):Value:=NL (BI (kQ d) (l8 d) (opsL d.2.2.2.2) lc) (takeN (kQ d) lc) (takeN (l8 d) (gI (kQ d) lc))
theorem aeP {w0 w:World}(hG:eT w0)(hb0:Below w0.heap.size w0 w){x:gy}(h:dF w0.heap.size w x){nm:List Nat}(hnm:nm∈fe)(A5:Option Addr)(n5 c5:Nat)(lc:List aG)(hn5:n5=lc.length)(hl:lc.length≤3)(hr:Rd w (fun _=>True) A5 (dD lc))(hs:jo (ag x.2.1.2.1) (ag nm) (opsL x.2.1.2.2.2.2) lc=true):
 Calls Tryz.prog 114 #[kU x,.agg #[.string (ag nm),.slice A5 n5 c5]] w fun e w'=>e= .returned (aeS x.2.1 lc)∧Below w.heap.size w w':=by
 obtain⟨h1,h2,h3⟩:=Kt h;have hF:=jk h.d h.k;have hs':=xu hs;have hcap:=adF hnm
 have hlen:nm.length≤1000:=by
  have:=DU h.d;have e:=yV ByteArray.size hs'.1;rw[aC,aC] at e;omega
 have hne:nm≠[]:=fun e=>by
  subst e;have:=aU PZ hnm
  cases this
 have C1:∀W,Below w.heap.size w W→Calls Tryz.prog 113 #[kU x,.agg #[.string (ag nm),.slice A5 n5 c5]] W fun e w'=>e= .returned (.bool true)∧Below W.heap.size W w':=fun W hb=>by
  have:=GD (h.after hb) (ag nm) (by rw[aC];omega) A5 n5 c5 lc hn5 hl (hr.after hb)
  rwa [hs] at this
 have C3:afz w 187 (kU x) (kQ x.2.1):=fun W hb=>(IX hG (hb0.trans (hb.mono hb0.size)) h.d h.k (h.r.after hb)).1.mono fun _ _ ⟨i,f,t,q1,q2,q3⟩=>⟨i,f,t,q1,q2.1,q3⟩
 have C4:afz w 188 (kU x) (l8 x.2.1):=fun W hb=>(IX hG (hb0.trans (hb.mono hb0.size)) h.d h.k (h.r.after hb)).2.mono fun _ _ ⟨i,f,t,q1,q2,q3⟩=>⟨i,f,t,q1,q2.1,q3⟩
 have hll:(opsL x.2.1.2.2.2.2).length=lc.length:=vG hs'.2;unfold kU di at C1 C3 C4 ⊢;rw[hs'.1] at C1 C3 C4 ⊢;exact aag _ _ (ag nm) _ _ x.2.2.1 A5 (opsL x.2.1.2.2.2.2) lc _ n5 x.2.2.2 c5 w _ _ (kQ x.2.1) (l8 x.2.1) (by rw[aC];omega) (Rv hcap) (afm hne) h2 hn5 h3 hl hll (fun y hy=>(hF.vd y hy).1) (fun y hy=>(hF.vn y hy).1) h1 hr C1 C3 C4
def NmR (w W:World)(nm ps:List Nat)(v:Value)(L:List gy)(i o p:Nat)(AR:Option Addr):Prop:=Ga w W nm ps v L i o∧Rd W (fun b=>some b≠v.ownBlock∧b < W.heap.size) AR (FE ((gB nm (eZ p)).map ag))
theorem NmR.after {w W W':World}{nm ps:List Nat}{v:Value}{L:List gy}{i o p:Nat}{AR:Option Addr}(h:NmR w W nm ps v L i o p AR)(hb:Below W.heap.size W W'):NmR w W' nm ps v L i o p AR:=⟨h.1.after hb,adq h.2 hb⟩
theorem aga {nm:List Nat}{p o:Nat}{d:bL}(hd:jd p o=some d)(h:UW nm p o=false∨UX nm p o=false):d.1=1→d.2.1=nm→False:=fun h1 h2=>by
 obtain⟨e1,e2⟩:=ail hd h1;subst h2;rcases h with h|h
 ·rw[e1] at h;cases h
 ·rw[e2] at h;cases h
theorem U9 {w wr w3:World}{nm ps:List Nat}{v:Value}{L:List gy}{i o p:Nat}{AR:Option Addr}(h:Ga w wr nm ps v L i o)(hr:Rd w3 (fun b=>wr.heap.size≤b) AR (FE ((gB nm (eZ p)).map ag)))(hb:Below wr.heap.size wr w3):NmR w w3 nm ps v L i o p AR:=
 ⟨h.after hb,hr.mono fun b hb' hle=>⟨fun e=>by
   have:=(h.own.lt b e.symm).2;omega,hb'⟩⟩
theorem acp:∀n:Fin 256,IntKind.u8.wrap (n.val:Int)=(n.val:Int):=by decide+kernel
theorem NmR.drew {w W:World}{nm ps:List Nat}{v:Value}{L:List gy}{i o p:Nat}{AR:Option Addr}(h:NmR w W nm ps v L i o p AR):NmR w W.drew nm ps v L i o p AR:=h.after (aL (zh _ _))
theorem NmR.skip {w W:World}{nm ps:List Nat}{v:Value}{L:List gy}{i o p:Nat}{d:bL}{AR:Option Addr}(h:NmR w W nm ps v L i o p AR)(hp:ps[i]? =some p)(hd:jd p o=some d)(hn:d.1=1→d.2.1=nm→False):NmR w W nm ps v L i (o+1) p AR:=⟨h.1.skip hp hd hn,h.2⟩
theorem Ve (nm:List Nat)(hnm:nm∈fe)(ps:List Nat)(hps:ps≠[])(hp6:∀p∈ps,p≤6)(hpl:ps.length≤7)(A:Option Addr)(n c:Nat)(w:World)(p:Nat→Prop)(hn:n=ps.length)(hG:eT w)(h:Rd w p A (ps.map fun (x:Nat)=>Value.int .i64 (x:Int))):
 Calls Tryz.prog 182 #[.string (ag nm),.slice A n c] w fun e w'=>∃v L,e= .returned v∧Ga w w' nm ps v L ps.length 0:=by
 have CE:Hid (∀W,Calls Tryz.prog 242 #[.slice A n c] W fun e w'=>e= .returned (.slice A n c)∧W=w'):=fun W=>(VX A n c W (by rw[hn];exact yG.2 hps) zy).mono fun _ _ h=>⟨h.1,h.2.symm⟩
 have CP:Hid (∀(q:Nat) W,q≤6→Calls Tryz.prog 244 #[.int .i64 (q:Int)] W fun e w'=>e= .returned (.string (ag (FP q)))∧W=w'):=fun q W hq=>(Jy hq W).mono fun _ _ h=>⟨h.1,h.2.symm⟩
 have CW:Hid (∀(q:Nat) W,Below w.heap.size w W→Calls Tryz.prog 243 #[.string (ag (FP q)),.string (ag nm)] W fun e w'=>∃A c,e= .returned (.slice A (gB nm (eZ q)).length c)∧Rd w' (fun b=>W.heap.size≤b) A (FE ((gB nm (eZ q)).map ag))∧Below W.heap.size W w'):=fun q W hb=>Xc hnm q W (hG.after hb)
 have CF:Hid (∀(q o:Nat) W AR c b,o < 256→Rd W (fun _=>True) AR (FE ((gB nm (eZ q)).map ag))→W.cell? ⟨b,0,none⟩=some (.int .i64 (o:Int))→Calls Tryz.prog 224 #[.slice AR (gB nm (eZ q)).length c,.func (.func 245) #[] #[.pointer (some ⟨b,0,none⟩)]] W fun e w'=>e= .returned (.bool (UW nm q o))∧W=w'):=fun q o W AR c b ho hr hc=>by
  have hlen:=vE (nm:=nm) (l:=eZ q);have am2:=Mj q
  have:=Io AR ((gB nm (eZ q)).map ag) (gB nm (eZ q)).length c o b W _ zw zy ho (fun s hs=>by
   obtain⟨r,hr,rfl⟩:=zX.1 hs;have:=ahF (qA hr);rw[aC];simp only[maxLen];omega) hr hc
  rw[KQ] at this;exact this
 have CL:Hid (∀(q o:Nat) W,o < 256→Below w.heap.size w W→Calls Tryz.prog 247 #[.string (ag (FP q)),.int .u8 (o:Int)] W fun e w'=>e= .returned (.tuple #[.string (ag (SA (eZ q) o)),.bool (lkB (eZ q) o)])∧Below W.heap.size W w'):=fun q o W ho hb=>Qj q ho W (hG.after hb)
 have CC:Hid (∀(q o:Nat) W AR c,Rd W (fun _=>True) AR (FE ((gB nm (eZ q)).map ag))→Calls Tryz.prog 237 #[.slice AR (gB nm (eZ q)).length c,.string (ag (SA (eZ q) o))] W fun e w'=>e= .returned (.bool (UX nm q o))∧W=w'):=fun q o W AR c hr=>by
  have hlen:=vE (nm:=nm) (l:=eZ q);have am2:=Mj q;have:=Od AR ((gB nm (eZ q)).map ag) (gB nm (eZ q)).length c (ag (SA (eZ q) o)) W _ zw zy hr;rw[Y5 (ad5 q o) fun r hr=>RX (qA hr)] at this
  exact this
 have CA:Hid (∀(q o:Nat) (d:bL) W,jd q o=some d→d.1=1→Below w.heap.size w W→Calls Tryz.prog 248 #[.int .i64 (q:Int),.int .u8 (o:Int)] W fun e w'=>∃A c,e= .returned (.tuple #[enV q o d A c,.int .i64 1])∧gF W.heap.size w' A c (lN d)∧Below W.heap.size W w'):=fun q o d W hd hk hb=>Q5 hd hk W (hG.after hb)
 have CN:Hid (∀(q o:Nat) (d:bL) W,jd q o=some d→d.1≠1→Below w.heap.size w W→Calls Tryz.prog 248 #[.int .i64 (q:Int),.int .u8 (o:Int)] W fun e w'=>∃(p' o':Int) (nm ex:ByteArray) (al:Bool) (A:Option Addr) (n c:Nat) (k:Int),e= .returned (.tuple #[.agg #[.int .i64 p',.int .u8 o',.string nm,.slice A n c,.string ex,.bool al],.int .i64 k])∧(k == 1)=false∧Below W.heap.size W w'):=fun q o d W hd hk hb=>ajY hd hk W (hG.after hb)
 have HR:=zo h;have HN:=zo hn;have HP:=zo hp6;have hn7:(n:Int)≤7:=zy;have H0:=zo (Ga.start w nm ps);clear h hn hG hnm hps hp6 hpl;go_enter Tryz.func182,Tryz.ntmps182
 go_wp2_with (go_at_call 242;refine (CE.out _).mono ?_;rintro e w1 ⟨rfl,rfl⟩)
 go_loopw [5,17] (fun v5 v17 wr=>∃(i:Nat) (L:List gy),v17= .int .i64 (i:Int)∧i≤n∧Hid (Ga w wr nm ps v5 L i 0)) (fun _ v17 _=>n - (intOf v17).toNat)
 case atStart=>exact⟨0,[],rfl,zF _,H0.out⟩
 case round=>
  obtain⟨i,L,rfl,hi,hw⟩:=hrel;clear H0 CE;by_cases hlt:i < n
  ·have hi1:i < ps.length:=by rw[← HN.out];exact hlt
   obtain⟨p0,hp0⟩:∃p0,ps[i]? =some p0:=⟨_,zg hi1⟩;have hp6:p0≤6:=HP.out p0 (zD hp0);obtain⟨q,off,rfl,_,c0⟩:=(HR.after hw.bl).v (k:=i) (u:=.int .i64 (p0:Int)) (by rw[yh,hp0];rfl)
   have HP0:=zo hp0;clear hp0
   go_wp2_with (first
    |(go_at_call 244;refine (CP.out p0 _ hp6).mono ?_;rintro e w2 ⟨rfl,rfl⟩)
    |(go_at_call 243;refine (CW.out p0 _ hw.bl).mono ?_;rintro e w3 ⟨AR,cR,rfl,hr,hb⟩;have HR3:=zo (U9 hw.out hr hb);clear hr hb))
   clear c0 hw;obtain⟨wo,rfl⟩:∃wo:World,wo=wr:=⟨_,rfl⟩
   go_loopw [5,25] (fun v5 v25 wi=>∃(o:Nat) (L:List gy),v25= .int .i64 (o:Int)∧o≤256∧Hid (NmR w wi nm ps v5 L i o p0 AR)) (fun _ v25 _=>256 - (intOf v25).toNat)
   case atStart=>exact⟨0,L,rfl,zy,HR3.out⟩
   case round=>
    clear HR3;obtain⟨o,L,rfl,ho,hw⟩:=hrel;by_cases hlo:o < 256
    ·have aqH:(o:Int) < 256:=zy;have hwr:IntKind.u8.wrap (o:Int)=o:=acp ⟨o,hlo⟩;obtain⟨d,hd⟩:=tT (p:=p0) (o:=o) zy hlo;have HD:=zo hd;clear hd;have HB1:=zo (hw.after ((zh wr.heap.size wr).alloc (zn _) (.cells #[.int .i64 (o:Int)] 3)));have jq:Hid (Bk (wr.alloc (.cells #[.int .i64 (o:Int)] 3)) wr.heap.size 3 [.int .i64 (o:Int)]):=Bk.new wr _ _;have x0:=jq.cell 0 rfl;have CFd:=zo (CF.out p0 o _ AR cR _ hlo (HB1.2.jH fun _ _=>trivial) x0)
     have CCd:Hid (∀W,Rd W (fun _=>True) AR (FE ((gB nm (eZ p0)).map ag))→_):=fun W r=>CC.out p0 o W AR cR r
     have CLd:Hid (∀W,Below w.heap.size w W→_):=fun W hb=>CL.out p0 o W hlo hb
     have CAd:Hid (∀W,d.1=1→Below w.heap.size w W→_):=fun W hk hb=>CA.out p0 o d W HD.out hk hb
     have CNd:Hid (∀W,d.1≠1→Below w.heap.size w W→_):=fun W hk hb=>CN.out p0 o d W HD.out hk hb
     clear CF CC CL CA CN CW;have HN1:Hid (UW nm p0 o=false→d.1=1→d.2.1=nm→False):=fun h=>aga HD.out (.inl h)
     have HN2:Hid (UX nm p0 o=false→d.1=1→d.2.1=nm→False):=fun h=>aga HD.out (.inr h)
     generalize UW nm p0 o=b1 at CFd HN1;generalize UX nm p0 o=b2 at CCd HN2;generalize SA (eZ p0) o=lt at CCd CLd;generalize lkB (eZ p0) o=lb at CLd
     cases b1
     ·have HS:=zo (HB1.skip HP0.out HD.out (HN1.out rfl))
      go_wp2_with (go_at_call 224;refine CFd.mono ?_;rintro e w4 ⟨rfl,rfl⟩)
      go_roundw
      case rel=>exact⟨o+1,L,by go_num,zy,HS.out⟩
      case measure=>simp[intOf];omega
     ·go_upto_region 10 with (go_at_call 224;refine CFd.mono ?_;rintro e w4 ⟨rfl,rfl⟩)
      obtain⟨b9,hb9⟩:∃b,wr.heap.size=b:=⟨_,rfl⟩;rw[hb9] at jq x0 ⊢;clear hw;generalize (wr.alloc (.cells #[.int .i64 (o:Int)] 3))=W1 at HB1 jq x0 ⊢;clear hb9 CFd;have xd:W1.drew.cell? ⟨b9,0,none⟩=some (.int .i64 (o:Int)):=x0;have OO:=zo HB1.drew;have HKd:=zo jq.drew
      first|(go_region_held3 (fun w'=>w'.cell? ⟨b9,0,none⟩=some (.int .i64 (o:Int))) (first|assumption|go_keep) (first
       |(go_at_call 244;refine (CP.out p0 _ hp6).mono ?_;rintro e w5 ⟨rfl,rfl⟩)
       |(go_at_call 247;refine (CLd.out _ OO.1.bl).mono ?_;rintro e w6 ⟨rfl,hb⟩;have H6:=zo (OO.after hb);have x6:=(HKd.after hb).cell 0 rfl;clear hb)))|fail
      all_goals
       clear OO HKd xd CLd HN1 HB1 jq x0;have CCe:=zo (CCd.out _ (H6.2.jH fun _ _=>trivial))
       clear CCd
       cases b2
       ·have HS:=zo (H6.skip HP0.out HD.out (HN2.out rfl))
        go_wp2_with (go_at_call 237;refine CCe.mono ?_;rintro e w7 ⟨rfl,rfl⟩)
        go_roundw
        case rel=>exact⟨o+1,L,by go_num,zy,HS.out⟩
        case measure=>simp[intOf];omega
       ·by_cases hk:d.1=1
        ·have CAe:=CAd.out w6 hk H6.1.bl;unfold enV at CAe;have CAe:=zo CAe;have HK:=zo hk;clear CAd CNd hk HN2
         go_upto_region 14 with (first
          |(go_at_call 237;refine CCe.mono ?_;rintro e w7 ⟨rfl,rfl⟩)
          |(go_at_call 248;refine CAe.mono ?_;rintro e w8 ⟨A9,c9,rfl,hr9,hb⟩;have H8:=zo ((H6.after hb).after ((zh w8.heap.size w8).alloc (zn _) (.cells #[.int .i64 (p0:Int),.int .u8 (o:Int),.string (ag d.2.1),.slice A9 (d.2.2.2.2.length / 3) c9,.string (ag d.2.2.1),.bool d.2.2.2.1] 133)));have HR8:=zo (hr9.after ((zh w8.heap.size w8).alloc (zn _) (.cells #[.int .i64 (p0:Int),.int .u8 (o:Int),.string (ag d.2.1),.slice A9 (d.2.2.2.2.length / 3) c9,.string (ag d.2.2.1),.bool d.2.2.2.1] 133)));have HK8:Hid (Bk (w8.alloc (.cells #[.int .i64 (p0:Int),.int .u8 (o:Int),.string (ag d.2.1),.slice A9 (d.2.2.2.2.length / 3) c9,.string (ag d.2.2.1),.bool d.2.2.2.1] 133)) w8.heap.size 133 [.int .i64 (p0:Int),.int .u8 (o:Int),.string (ag d.2.1),.slice A9 (d.2.2.2.2.length / 3) c9,.string (ag d.2.2.1),.bool d.2.2.2.1]):=Bk.new w8 _ _;clear hr9 hb))
         obtain⟨b12,anh⟩:∃b,w8.heap.size=b:=⟨_,rfl⟩;rw[anh] at HK8 ⊢;have HRB:=zo (HR8.mono (zV H6.1.bl.size (zn _)));clear HR8 anh CAe CCe;generalize (w8.alloc (.cells #[.int .i64 (p0:Int),.int .u8 (o:Int),.string (ag d.2.1),.slice A9 (d.2.2.2.2.length / 3) c9,.string (ag d.2.2.1),.bool d.2.2.2.1] 133))=W8 at H8 HK8 HRB ⊢;have H9:=zo (H8.after ((zh W8.heap.size W8).alloc (zn _) (.cells #[.int .i64 (p0:Int),.int .u8 (o:Int),.string (ag d.2.1),.slice A9 (d.2.2.2.2.length / 3) c9,.string (ag d.2.2.1),.bool d.2.2.2.1] 133)));have HR9:=zo (HRB.after ((zh W8.heap.size W8).alloc (zn _) (.cells #[.int .i64 (p0:Int),.int .u8 (o:Int),.string (ag d.2.1),.slice A9 (d.2.2.2.2.length / 3) c9,.string (ag d.2.2.1),.bool d.2.2.2.1] 133)));have hrd:=Rd.new W8 #[.int .i64 (p0:Int),.int .u8 (o:Int),.string (ag d.2.1),.slice A9 (d.2.2.2.2.length / 3) c9,.string (ag d.2.2.1),.bool d.2.2.2.1] 133 (p:=fun _=>True) trivial
         have hown1:=H9.1.own
         have HL:=zo (show L.length+1≤maxLen∧(L.length+1) * 80≤140737488355328 by
          have:=H8.1.len;simp only[maxLen];omega)
         have HS9:=zo H9.1.bl.size;have x0:=HK8.cell 0 rfl;have x1:=HK8.cell 1 rfl;have x2:=HK8.cell 2 rfl;have x3:=HK8.cell 3 rfl;have x4:=HK8.cell 4 rfl;have x5:=HK8.cell 5 rfl
         go_wp2_with (at_builtin;refine bu ajG rfl (.tmp 53) (.tmp 55) rfl w.heap.size _ L.length (pO L) (fun _=>True) (some ⟨W8.heap.size,0,none⟩) 1 1 _ rfl rfl hown1 rfl hrd (by simp[Value.oneCell']) HL.1 HL.2 HS9.out ?_;intro v' w9 hown2 hg1 QB hz1)
         go_roundw
         case rel=>exact⟨o+1,L++[((p0,o),d,A9,c9)],by go_num,zy,H9.1.push (zn _) HP0.out HD.out HK.out hlo HR9.out hown2 hg1 HS9.out,Yf H9.2 hg1 QB⟩
         case measure=>simp[intOf];omega
        ·have CNe:=zo (CNd.out w6 hk H6.1.bl);have HS:=zo (H6.skip HP0.out HD.out (fun h _=>hk h))
         clear CAd CNd hk HN2
         go_wp2_with (first
          |(go_at_call 237;refine CCe.mono ?_;rintro e w7 ⟨rfl,rfl⟩)
          |(go_at_call 248;refine CNe.mono ?_;rintro e w8 ⟨p',o',FR,ex,al,A9,n9,c9,k9,rfl,hk9,hb⟩;have H8:=zo ((HS.after hb).after ((zh w8.heap.size w8).alloc (zn _) (.cells #[.int .i64 p',.int .u8 o',.string FR,.slice A9 n9 c9,.string ex,.bool al] 133)));clear hb))
         go_roundw
         case rel=>exact⟨o+1,L,by go_num,zy,H8.out⟩
         case measure=>simp[intOf];omega
    ·have aqH:¬(o:Int) < 256:=zy;obtain rfl:o=256:=zy;have HS:=zo hw.1.page;go_wp2;go_roundw
     case rel=>exact⟨i+1,L,by go_num,zy,HS.out⟩
     case measure=>simp[intOf];omega
  ·obtain rfl:i=n:=zy;have HX:=zo hw.out;rw[HN.out] at HX;go_wp2;go_ret;exact⟨_,L,rfl,HX.out⟩
theorem JN:allT (fun _ _ d=>match d.1 with|1=>kV (fun x=>Nat.ble 65 x && Nat.ble x 90) d.2.1|_=>true) 0 DF=true:=by kernel_rfl
theorem YW {p o:Nat}{d:bL}(hd:jd p o=some d)(hk:d.1=1):∀x∈d.2.1,65≤x∧x≤90:=fun x hx=>by
 have h:=dL JN hd;rw[hk] at h;have h2:=bM (f:=fun x=>Nat.ble 65 x && Nat.ble x 90) h hx
 simp only[Bool.and_eq_true] at h2;exact⟨zk h2.1,zk h2.2⟩
theorem YI {w:World}{B b:Nat}{A:Option Addr}{l:List aG}{u:Value}{T:TypeId}(h:Ow w B A l)(hb:w.heap[b]? =some (.cells #[u] T (0,0))):l≠[]→∀a,A=some a→a.block≠b:=fun hl a ha e=>by
 obtain⟨q,off,cur,T',hA,_,hh,hc⟩:=h hl;rw[hA] at ha;obtain rfl:=zq ha;obtain rfl:q=b:=e;rw[hh] at hb
 have e2:cur=#[u]:=by
  have:=zq hb;injection this
 subst e2;have h3:=yV List.length hc;rw[zJ,zH,nE] at h3;have:0 < l.length:=yG.2 hl;simp at h3;omega
structure WV (w W:World)(B r:Nat)(s:ByteArray)(A:Option Addr)(n c:Nat)(l:List aG)(e:List Value):Prop where
 f:IU w B r s true A n c l e W
 b1:Bk W (w.heap.size+1) 28 [.string ⟨#[]⟩,.slice none 0 0]
 hB:w.heap.size+2≤B
section
variable {w W W':World} {B r n c:Nat} {s:ByteArray} {A:Option Addr} {l l':List aG} {e:List Value}
theorem WV.call (h:WV w W B r s A n c l e)(hb:Below W.heap.size W W'):WV w W' B r s A n c l e:=⟨Az h.f hb,h.b1.after hb,h.hB⟩
theorem WV.put (h:WV w W B r s A n c l e)(hr:Rest B r s true A n c l' W')(hb:Below B W W'):WV w W' B r s A n c l' e:=⟨Ay h.f (by have:=h.hB;omega) hr hb,h.b1.below hb (by have:=h.hB;omega),h.hB⟩
theorem WV.ahD (h:WV w W B r s A n c l e):l≠[]→∀a,A=some a→a.block < W.heap.size:=fun hl a ha=>by
 obtain⟨q,off,cur,T',hA,_,hh,hc⟩:=h.f.1.2.1 hl;rw[hA] at ha;obtain rfl:=zq ha;exact dV hh
end
theorem Bn {W W':World}{v:Option Vr}{idx:Int}{f:Value}{there:Bool}(h:jN W v idx f there)(hb:∀b,(∃u,W.cell? ⟨b,0,none⟩=some u)→(∀y b1 b2,v=some y→f= .func (.func 316) #[] #[.pointer (some ⟨b1,0,none⟩),.pointer (some ⟨b2,0,none⟩)]→b=b1∨b=b2→W'.heap[b]? =W.heap[b]?)):jN W' v idx f there:=by
 cases v with
 |none=>exact h
 |some y=>
  obtain⟨h1,h2,b1,b2,hf,c1,c2⟩:=h;refine⟨h1,h2,b1,b2,hf,?_,?_⟩
  ·rw[yz (w:=W) (hb b1 ⟨_,c1⟩ y b1 b2 rfl hf (.inl rfl))];exact c1
  ·rw[yz (w:=W) (hb b2 ⟨_,c2⟩ y b1 b2 rfl hf (.inr rfl))];exact c2
theorem LD {W W':World}{v:Option Vr}{idx:Int}{f:Value}{there:Bool}(h:jN W v idx f there)(hb:Below W.heap.size W W'):jN W' v idx f there:=
 Bn h fun b ⟨_,hu⟩ _ _ _ _ _ _=>hb.block b (lt_of_cell hu)
theorem Gi {W W':World}{v:Option Vr}{f:Value}(h:KT W v f)(hb:∀(b:Nat) (u:Value) (T:TypeId),W.heap[b]? =some (.cells #[u] T (0,0))→W'.heap[b]? =W.heap[b]?):KT W' v f:=fun y hy=>by
 obtain⟨b1,b2,T1,T2,hf,h1,h2⟩:=h y hy;exact⟨b1,b2,T1,T2,hf,(hb b1 _ _ h1).trans h1,(hb b2 _ _ h2).trans h2⟩
theorem O7 {W W':World}{v:Option Vr}{idx:Int}{f:Value}{there:Bool}(h:jN W v idx f there)(h':KT W v f)(hb:∀(b:Nat) (u:Value) (T:TypeId),W.heap[b]? =some (.cells #[u] T (0,0))→W'.heap[b]? =W.heap[b]?):jN W' v idx f there:=by
 refine Bn h fun b _ y b1 b2 hy hf hbb=>?_
 obtain⟨c1,c2,T1,T2,hf',k1,k2⟩:=h' y hy;rw[hf'] at hf;obtain⟨rfl,rfl⟩:c1=b1∧c2=b2:=by simpa using hf
 rcases hbb with rfl|rfl
 ·exact hb _ _ _ k1
 ·exact hb _ _ _ k2
theorem Xo {W:World}{b10:Nat}{u0 u1:Value}{T:TypeId}(h:Bk W b10 T [u0,u1])(x y:Value):∀(b:Nat) (u:Value) (T':TypeId),W.heap[b]? =some (.cells #[u] T' (0,0))→((W.setCell ⟨b10,0,none⟩ x).setCell ⟨b10,1,none⟩ y).heap[b]? =W.heap[b]?:=fun b u T' hb=>by
 have hne:b≠b10:=fun e=>by
  subst e;have h':W.heap[b]? =some (.cells #[u0,u1] T (0,0)):=h;rw[h'] at hb;have:=zq hb;injection this with e
  have:=yV Array.size e;simp at this
 exact (zG _ ⟨b10,1,none⟩ y b hne).trans (zG W ⟨b10,0,none⟩ x b hne)
theorem WV.box {w W:World}{B r:Nat}{s:ByteArray}{A:Option Addr}{n c:Nat}{l:List aG}{e:List Value}(h:WV w W B r s A n c l e){b10 j:Nat}(u:Value)(hr:r≠b10)(hB:B≤b10)(hrow:l≠[]→∀a,A=some a→a.block≠b10):WV w (W.setCell ⟨b10,j,none⟩ u) B r s A n c l e:=by
 have h2:=h.hB;exact⟨⟨⟨h.f.1.1.other hr u,h.f.1.2.1.ne hrow u,h.f.1.2.2⟩,h.f.2.1.setCell (by show w.heap.size≤b10;omega) u,h.f.2.2.1.other (by show w.heap.size≠b10;omega) u,by simpa using h.f.2.2.2⟩,h.b1.other (by show w.heap.size+1≠b10;omega) u,h.hB⟩
theorem aeU {w0 w:World}(hG:eT w0)(hb0:Below w0.heap.size w0 w){x:gy}(h:dF w0.heap.size w x)(d z:Int)(hd:FO (kQ x.2.1) d=true)(hz:FO (l8 x.2.1) z=true):
 Calls Tryz.prog 434 #[kU x,.int .i64 d,.int .i64 z] w fun e w'=>∃A' c',e= .returned (.tuple #[.agg #[.string (ag x.2.1.2.1),.slice A' (opsL x.2.1.2.2.2.2).length c'],.bool true])∧Rd w' (fun i=>w.heap.size≤i) A' (dD (eO (kQ x.2.1) (l8 x.2.1) (opsL x.2.1.2.2.2.2) d z))∧Below w.heap.size w w':=by
 obtain⟨h1,h2,h3⟩:=Kt h;have hF:=jk h.d h.k;have hup:=Rv (YW h.d h.k);have hlen:=DU h.d;have C3:Hid (∀W,Below w.heap.size w W→Calls Tryz.prog 187 #[kU x] W fun e w'=>∃idx f there,e= .returned (.tuple #[.agg #[.int .i64 idx,f],.bool there])∧(jN w' (kQ x.2.1) idx f there∧KT w' (kQ x.2.1) f∧f.oneCell'=true)∧Below W.heap.size W w'):=fun W hb=>(IX hG (hb0.trans (hb.mono hb0.size)) h.d h.k (h.r.after hb)).1
 have C4:Hid (∀W,Below w.heap.size w W→Calls Tryz.prog 188 #[kU x] W fun e w'=>∃idx f there,e= .returned (.tuple #[.agg #[.int .i64 idx,f],.bool there])∧(jN w' (l8 x.2.1) idx f there∧KT w' (l8 x.2.1) f∧f.oneCell'=true)∧Below W.heap.size W w'):=fun W hb=>(IX hG (hb0.trans (hb.mono hb0.size)) h.d h.k (h.r.after hb)).2
 have hvd:=fun y hy=>(hF.vd y hy).1
 have Hz:=fun y hy=>(hF.vn y hy).1
 have C2:Hid (∀W,Below w.heap.size w W→Calls Tryz.prog 57 #[.string (ag x.2.1.2.1),.slice x.2.2.1 (x.2.1.2.2.2.2.length / 3) x.2.2.2] W fun e w'=>∃A2 c2,e= .returned (.agg #[.string (ag x.2.1.2.1),.slice A2 (x.2.1.2.2.2.2.length / 3) c2])∧Ow w' W.heap.size A2 (opsL x.2.1.2.2.2.2)∧x.2.1.2.2.2.2.length / 3≤c2∧Below W.heap.size W w'):=fun W hb=>by
  have:=D5 (ag x.2.1.2.1) x.2.2.1 (opsL x.2.1.2.2.2.2) (x.2.1.2.2.2.2.length / 3) x.2.2.2 W _ (by rw[aC];omega) h2 zy (h1.after hb)
  rwa [hup] at this
 rw[← h2];unfold kU di at C3 C4 ⊢;obtain⟨⟨p,o⟩,dd,A0,c0⟩:=x;simp only at hd hz h2 h3 C2 C3 C4 hvd Hz ⊢;have H2:=zo h2;have H3:=zo h3;generalize kQ dd=vd at hd C3 hvd ⊢;generalize l8 dd=vn at hz C4 Hz ⊢;have HVD:=zo hvd;have HVN:=zo Hz;generalize opsL dd.2.2.2.2=l at C2 hvd Hz H2 H3 HVD HVN ⊢;generalize dd.2.2.2.2.length / 3=n at C2 C3 C4 H2 ⊢;generalize ag dd.2.1=s at C2 C3 C4 ⊢;generalize ag dd.2.2.1=ex at C3 C4 ⊢;generalize dd.2.2.2.1=al at C3 C4 ⊢
 have CP:Hid (∀(B r:Nat) (A:Option Addr) (c:Nat) (L:List aG) W f idx x there v,jN W v idx f there→KT W v f→B≤W.heap.size→(∀y,v=some y→y.1 < l.length)→L.length=l.length→Rest B r s true A n c L W→FO v x=true→Calls Tryz.prog 448 #[.agg #[.int .i64 idx,f],.bool there,.int .i64 x,.pointer (some ⟨r,0,none⟩)] W fun e w'=>e= .returned (.bool true)∧Rest B r s true A n c (pM v L x) w'∧Below B W w'∧(∀k,k < W.heap.size→(L≠[]→∀a,A=some a→a.block≠k)→w'.heap[k]? =W.heap[k]?)):=fun B r A c L W f idx x there v hv hvb hB hl hL hr hx=>by
  refine adt B r s A n c L W f idx x there v hv hB (fun y hy=>by rw[hL];exact hl y hy) (by rw[hL];exact H2.out) (by rw[hL];exact H3.out) hr hx fun y b1 b2 hy hf=>?_
  obtain⟨b1',b2',T1,T2,hf',k1,k2⟩:=hvb y hy;rw[hf'] at hf
  obtain⟨rfl,rfl⟩:b1'=b1∧b2'=b2:=by
   injection hf with _ _ e
   simp at e;exact e
  exact⟨.inr (YI hr.2.1 k1),.inr (YI hr.2.1 k2)⟩
 have HA:Hid (Below w.heap.size w ((w.alloc (.cells #[.int .i64 (p:Int),.int .u8 (o:Int),.string s,.slice A0 n c0,.string ex,.bool al] 133)).alloc (.cells #[.string ⟨#[]⟩,.slice none 0 0] 28))):=((zh _ _).alloc (zn _) _).alloc zw _;have jq:Hid (Bk ((w.alloc (.cells #[.int .i64 (p:Int),.int .u8 (o:Int),.string s,.slice A0 n c0,.string ex,.bool al] 133)).alloc (.cells #[.string ⟨#[]⟩,.slice none 0 0] 28)) w.heap.size 133 [.int .i64 (p:Int),.int .u8 (o:Int),.string s,.slice A0 n c0,.string ex,.bool al]):=(Bk.new w _ _).alloc _
 have qL:Hid (Bk ((w.alloc (.cells #[.int .i64 (p:Int),.int .u8 (o:Int),.string s,.slice A0 n c0,.string ex,.bool al] 133)).alloc (.cells #[.string ⟨#[]⟩,.slice none 0 0] 28)) (w.heap.size+1) 28 [.string ⟨#[]⟩,.slice none 0 0]):=by
  have:=Bk.new (w.alloc (.cells #[.int .i64 (p:Int),.int .u8 (o:Int),.string s,.slice A0 n c0,.string ex,.bool al] 133)) 28 [.string ⟨#[]⟩,.slice none 0 0];rwa [zU] at this
 have hmf:∀(fn:Fn) (first cap:Array Value) (w:World),(Instr.makeFunc fn first cap).run Tryz.prog w= .ok (.func fn first cap) w:=fun _ _ _ _=>rfl
 have hs0:((w.alloc (.cells #[.int .i64 (p:Int),.int .u8 (o:Int),.string s,.slice A0 n c0,.string ex,.bool al] 133)).alloc (.cells #[.string ⟨#[]⟩,.slice none 0 0] 28)).heap.size=w.heap.size+2:=zw;clear h h1 h2 h3 hF hup hlen hG hb0 hvd Hz;go_enter Tryz.func434,Tryz.ntmps434;go_upto_region 1 with fail
 generalize ((w.alloc (.cells #[.int .i64 (p:Int),.int .u8 (o:Int),.string s,.slice A0 n c0,.string ex,.bool al] 133)).alloc (.cells #[.string ⟨#[]⟩,.slice none 0 0] 28))=W0 at HA jq qL hs0 ⊢;have x2:=jq.cell 2 rfl;have x3:=jq.cell 3 rfl;go_upto_region 2 with (go_at_call 57;refine (C2.out _ HA.out).mono ?_;rintro e w2 ⟨A2,c2,rfl,ho,hc,hb⟩;have H3:Hid (WV w (w2.alloc (.cells #[.string s,.slice A2 n c2] 28)) W0.heap.size w2.heap.size s A2 n c2 l [.int .i64 (p:Int),.int .u8 (o:Int),.string s,.slice A0 n c0,.string ex,.bool al]):=⟨EC ho (jq.after hb) (HA.trans (hb.mono HA.size)) hb.size s n c2,(qL.after hb).alloc _,by rw[hs0];omega⟩;have HL2:=zo hb.size;clear hb ho hc)
 clear x2 x3 jq qL C2;obtain⟨r,hr⟩:∃r,w2.heap.size=r:=⟨_,rfl⟩;rw[hr] at H3 HL2 ⊢;generalize w2.alloc (.cells #[.string s,.slice A2 n c2] 28)=W2 at H3 ⊢;clear hr;obtain⟨B,hB⟩:∃B,W0.heap.size=B:=⟨_,rfl⟩;rw[hB] at H3 HL2 hs0;have b0:=H3.f.2.2.1.cell 0 rfl;have b1:=H3.f.2.2.1.cell 1 rfl;have b2:=H3.f.2.2.1.cell 2 rfl;have b3:=H3.f.2.2.1.cell 3 rfl;have b4:=H3.f.2.2.1.cell 4 rfl;have b5:=H3.f.2.2.1.cell 5 rfl;go_upto_region 4 with (go_at_call 187;refine (C3.out _ H3.f.2.1).mono ?_;rintro e w4 ⟨idx,f,there,rfl,hv,hb⟩;have H4:=zo (H3.call hb);have HV:=zo hv;have hst:∀(a:Addr) (m:Mode) (W:World),Sem.run Tryz.prog (store a f m) W=stored Tryz.prog W a f m:=fun a m W=>wD Tryz.prog W a f m hv.2.2;clear hb hv)
 clear b0 b1 b2 b3 b4 b5 C3 H3 HA;obtain⟨b10,Et⟩:∃b,w4.heap.size=b:=⟨_,rfl⟩;have hal:=(zh w4.heap.size w4).alloc (zn _) (.cells #[.int .i64 idx,f] 286);have H5:=zo (H4.call hal);have K10:=zo (Bk.new w4 286 [.int .i64 idx,f]);have HV5:=zo (zM (LD HV.1 hal) (Gi HV.2.1 (fun b u T hb=>hal.block b (lt_of_heap hb))))
 have aod:=zo (show l≠[]→∀a,A2=some a→a.block < b10 from fun hl a ha=>Et ▸ H4.ahD hl a ha)
 have aol:=zo (show B≤b10 from Et ▸ H4.f.2.2.2)
 have arO:=zo (show r < b10 from Et ▸ H4.f.1.1.lt)
 clear hal HV H4;rw[Et] at K10 ⊢;generalize w4.alloc (.cells #[.int .i64 idx,f] 286)=W5 at H5 K10 HV5 ⊢;clear Et;have k0:=K10.cell 0 rfl;have k1:=K10.cell 1 rfl;have CP1:=zo (CP.out B r A2 c2 l W5 f idx d there vd HV5.1 HV5.2 H5.f.2.2.2 HVD.out rfl H5.f.1 hd);clear HV5;go_upto_region 5 with (go_at_call 448;refine CP1.mono ?_;rintro e w6 ⟨rfl,hr6,hb6,hk6⟩;have H6:=zo (H5.put hr6 hb6);have K6:Hid (Bk w6 b10 286 [.int .i64 idx,f]):=(hk6 b10 K10.lt (fun hl a ha=>by have:=aod.out hl a ha;omega)).trans K10.out;clear hr6 hb6 hk6)
 clear k0 k1 K10 H5 CP1 hst;have b0:=H6.f.2.2.1.cell 0 rfl;have b1:=H6.f.2.2.1.cell 1 rfl;have b2:=H6.f.2.2.1.cell 2 rfl;have b3:=H6.f.2.2.1.cell 3 rfl;have b4:=H6.f.2.2.1.cell 4 rfl;have b5:=H6.f.2.2.1.cell 5 rfl;go_upto_region 6 with (go_at_call 188;refine (C4.out _ H6.f.2.1).mono ?_;rintro e w7 ⟨Qz,f2,Pj,rfl,hv,hb⟩;have H7:=zo (H6.call hb);have HW:=zo hv;have aqp:∀(a:Addr) (m:Mode) (W:World),Sem.run Tryz.prog (store a f2 m) W=stored Tryz.prog W a f2 m:=fun a m W=>wD Tryz.prog W a f2 m hv.2.2;have K7:=zo (K6.after hb);have k0:=K7.cell 0 rfl;have k1:=K7.cell 1 rfl;have g0:=K7.frozen 0;have g1:=K7.frozen 1;clear hb hv)
 clear b0 b1 b2 b3 b4 b5 k0 k1 g0 g1 C4 H6 K6 aqp;have hkp:=Xo K7.out (.int .i64 Qz) f2;have HV8:=zo (zM (O7 HW.1 HW.2.1 hkp) (Gi HW.2.1 hkp));have K8:=zo ((K7.set 0 (.int .i64 Qz)).set 1 f2)
 have HR8:pM vd l d≠[]→∀a,A2=some a→a.block≠b10:=fun hl a ha=>by
  have hl0:l≠[]:=fun e=>hl (yQ (by rw[iL,e];rfl))
  have:=aod.out hl0 a ha;omega
 have aqr:=arO.out;have H8:=zo ((H7.box (b10:=b10) (j:=0) (.int .i64 Qz) zy aol.out HR8).box (b10:=b10) (j:=1) f2 zy aol.out HR8);clear hkp HR8 HW K7 H7 aqr;generalize ((w7.setCell ⟨b10,0,none⟩ (.int .i64 Qz)).setCell ⟨b10,1,none⟩ f2)=W8 at HV8 K8 H8 ⊢;have k0:=K8.cell 0 rfl;have k1:=K8.cell 1 rfl;have CP2:=zo (CP.out B r A2 c2 (pM vd l d) W8 f2 Qz z Pj vn HV8.1 HV8.2 H8.f.2.2.2 HVN.out (iL vd l d) H8.f.1 hz);clear CP HV8;go_upto_region 8 with (go_at_call 448;refine CP2.mono ?_;rintro e w9 ⟨rfl,hr9,hb9,hk9⟩;have H9:=zo (H8.put hr9 hb9);have r0:=hr9.1.cell 0 rfl;have r1:=hr9.1.cell 1 rfl;have q0:=H9.b1.cell 0 rfl;have q1:=H9.b1.cell 1 rfl;have g0:=H9.b1.frozen 0;have g1:=H9.b1.frozen 1;clear hr9 hb9 hk9)
 have kk:=zo ((H9.b1.set 0 (.string s)).set 1 (.slice A2 n c2))
 have HO:Hid (Rd ((w9.setCell ⟨w.heap.size+1,0,none⟩ (.string s)).setCell ⟨w.heap.size+1,1,none⟩ (.slice A2 n c2)) (fun i=>w.heap.size≤i) A2 (dD (pM vn (pM vd l d) z))):=by
  have hB2:=H9.hB;exact (((H9.f.1.2.1.other (p:=⟨w.heap.size+1,0,none⟩) (by show w.heap.size+1 < B;omega) _).other (p:=⟨w.heap.size+1,1,none⟩) (by show w.heap.size+1 < B;omega) _).rd).jH fun i (hi:B≤i)=>by omega
 have HBl:=zo ((H9.f.2.1.setCell (p:=⟨w.heap.size+1,0,none⟩) (yY _) (.string s)).setCell (p:=⟨w.heap.size+1,1,none⟩) (yY _) (.slice A2 n c2));clear k0 k1 K8 CP2 H8;go_wp2;have c0:=kk.cell 0 rfl;have c1:=kk.cell 1 rfl;have hnl:n=l.length:=H2.out;refine xx (v:=.tuple #[.agg #[.string s,.slice A2 n c2],.bool true]) (by simp[results,Tryz.results434,go_sem,c0,c1]) rfl ⟨A2,c2,rfl,HO.out,HBl.out⟩
theorem aau {ex:List Nat}(h:gV ex jQ=true):∀x∈ex,x < 128:=by
 simp only[jQ] at h;intro x hx
 have key:∀l:List (List Nat),gV ex l=true→ex∈l:=fun l=>by
  induction l with
  |nil=>intro h;cases h
  |cons y l ih=>
   intro h;unfold gV at h
   cases he:gH ex y with
   |true=>rw[bJ he];exact zb
   |false=>rw[he] at h;exact ze _ (ih h)
 have:=key _ h;simp only[List.mem_cons,List.not_mem_nil,or_false] at this;rcases this with rfl|rfl|rfl|rfl|rfl|rfl<;>simp at hx<;>omega
theorem tN {W W':World}{base n size:Nat}{e:TypeId}{v:Value}{xs:List Value}(h:W.ownsRow base e size v n xs)(hk:∀k,v.ownBlock=some k→W'.heap[k]? =W.heap[k]?):W'.ownsRow base e size v n xs:=by
 refine⟨h.1,h.2.imp id ?_⟩;rintro ⟨g,cap,cur,rfl,p2,p3,p4⟩;exact⟨g,cap,cur,rfl,p2,(hk g rfl).trans p3,p4⟩
theorem mo (p:Nat):(aO p).length≤2:=by
 unfold aO;split<;>decide
structure Fv (w W:World)(bx rb:Nat)(A:Option Addr)(N c r:Nat)(pf:List Nat)(AP:Option Addr)(cP:Nat)(e0 e1 e2 e3 e4 e5:Value)(d n:Int):Prop where
 bk:Bk W bx 510 (dW A N c r (.slice AP pf.length cP) e0 e1 e2 e3 e4 e5 d n)
 own:W.ownsRow w.heap.size 5 1 (.slice AP pf.length cP) pf.length (Ui pf)
 nil:pf=[]→AP=none∧cP=0
 res:Bk W rb 30 [.int .i64 0,.slice none 0 0,.string ⟨#[]⟩,.slice none 0 0,.bool false]
 gr:w.grownBy W (some bx)
 rb:w.heap.size≤rb
section
variable {w W W':World} {bx rb:Nat} {A:Option Addr} {N c r:Nat} {pf:List Nat} {AP:Option Addr} {cP:Nat} {e0 e1 e2 e3 e4 e5:Value} {d n:Int}
theorem Fv.after (h:Fv w W bx rb A N c r pf AP cP e0 e1 e2 e3 e4 e5 d n)(hb:Below W.heap.size W W'):Fv w W' bx rb A N c r pf AP cP e0 e1 e2 e3 e4 e5 d n:=
 ⟨h.bk.after hb,mr h.own hb,h.nil,h.res.after hb,iG h.gr (grownBy_below hb _),h.rb⟩
theorem Fv.Yv (h:Fv w W bx rb A N c r pf AP cP e0 e1 e2 e3 e4 e5 d n):some bx≠(Value.slice AP pf.length cP).ownBlock:=own_ne h.own h.bk zx
theorem Fv.ah3 (h:Fv w W bx rb A N c r pf AP cP e0 e1 e2 e3 e4 e5 d n):some rb≠(Value.slice AP pf.length cP).ownBlock:=own_ne h.own h.res zx
theorem Fv.write (h:Fv w W bx rb A N c r pf AP cP e0 e1 e2 e3 e4 e5 d n)(hne:rb≠bx){r':Nat}{e0' e1' e2' e3' e4' e5':Value}{d' n':Int}(hb:Bk W' bx 510 (dW A N c r' (.slice AP pf.length cP) e0' e1' e2' e3' e4' e5' d' n'))(hg:W.grownBy W' (some bx)):Fv w W' bx rb A N c r' pf AP cP e0' e1' e2' e3' e4' e5' d' n':=by
 refine⟨hb,tN h.own fun k hk=>hg.block k ?_ fun e=>?_,h.nil,(hg.block rb h.res.lt fun e=>hne (zq e)).trans h.res,iG h.gr hg,h.rb⟩
 ·exact (h.own.lt k hk).2
 ·obtain rfl:=zq e;exact h.Yv hk.symm
theorem Fv.below {w0:World}(h:Fv w W bx rb A N c r pf AP cP e0 e1 e2 e3 e4 e5 d n)(hb0:Below w0.heap.size w0 w)(hbx:w0.heap.size≤bx):Below w0.heap.size w0 W:=hb0.grown h.gr hb0.size fun k e=>by rw[← zq e];exact hbx
theorem Fv.app (h:Fv w W bx rb A N c r pf AP cP e0 e1 e2 e3 e4 e5 d n)(hne:rb≠bx){z:Nat}{g c':Nat}(hown:W'.ownsRow w.heap.size 5 1 (.slice (some ⟨g,0,none⟩) (pf.length+1) c') (pf.length+1) (Ui pf++[.int .u8 (z:Int)]))(hg:W.grownBy W' (Value.slice AP pf.length cP).ownBlock):
 Bk W' bx 510 (dW A N c r (.slice AP pf.length cP) e0 e1 e2 e3 e4 e5 d n)∧Fv w (W'.setCell ⟨bx,2,none⟩ (.slice (some ⟨g,0,none⟩) (pf.length+1) c')) bx rb A N c r (pf++[z]) (some ⟨g,0,none⟩) c' e0 e1 e2 e3 e4 e5 d n:=by
 have hbk:Bk W' bx 510 (dW A N c r (.slice AP pf.length cP) e0 e1 e2 e3 e4 e5 d n):=(hg.block bx h.bk.lt h.Yv).trans h.bk;have hres:Bk W' rb 30 [.int .i64 0,.slice none 0 0,.string ⟨#[]⟩,.slice none 0 0,.bool false]:=(hg.block rb h.res.lt h.ah3).trans h.res;have hl:(pf++[z]).length=pf.length+1:=zw;have hv:Ui (pf++[z])=Ui pf++[.int .u8 (z:Int)]:=by simp[Ui]
 refine⟨hbk,?_,?_,fun e=>by simp at e,hres.other hne _,?_,h.rb⟩
 ·have:=hbk.set 2 (.slice (some ⟨g,0,none⟩) (pf.length+1) c');rw[hl];exact this
 ·rw[hl,hv];refine tN hown fun k hk=>zG W' ⟨bx,2,none⟩ _ k fun e=>?_
  have hkb:k=bx:=e;subst hkb;exact own_ne hown hbk zx hk.symm
 ·refine⟨hg.os.trans h.gr.os,hg.tape.trans h.gr.tape,hg.output.trans h.gr.output,zV h.gr.size (by simpa using hg.size),fun k hk hkb=>?_⟩
  have h1:=h.gr.block k hk hkb
  have h2:=hg.block k (zZ hk h.gr.size) fun e=>by
   have:=(h.own.lt k e.symm).1;omega
  exact (zG W' ⟨bx,2,none⟩ _ k fun e=>hkb (by rw[show k=bx from e])).trans (h2.trans h1)
theorem own_base' {w:World}{n0 n k size:Nat}{e:TypeId}{v:Value}{xs:List Value}(h:w.ownsRow n0 e size v k xs)(_hn:n≤n0):w.ownsRow n e size v k xs:=by
 refine⟨h.1,h.2.imp id ?_⟩;rintro ⟨g,cap,cur,p1,p2,p3⟩;exact⟨g,cap,cur,p1,zy,p3⟩
end
structure ItH (p o:Nat)(ex:List Nat)(d n:Int)(V:List Value)(a1:Nat):Prop where
 pre:∀(r z:Nat),(aO p)[r]? =some z→V[r]? =some (.int .u8 (z:Int))
 early:5≤p→Ext V [100] (aO p).length 0 0 ((aO p).length+1) d 0∧V[(aO p).length+1]? =some (.int .u8 (o:Int))∧n=0∧a1=(aO p).length+2
 late:p < 5→V[(aO p).length]? =some (.int .u8 (o:Int))∧Ext V ex ((aO p).length+1) 0 0 a1 d n
theorem Xf {p r z:Nat}(_hp:p≤6)(hz:(aO p)[r]? =some z):(aO p).take r∈rH∧Jv ((aO p).take r) < 5∧z < 256∧∃d,jd (Jv ((aO p).take r)) z=some d∧d.1=2:=by
 have nW:p=0∨p=1∨p=2∨p=3∨p=4∨p=5∨p=6:=zy;rcases nW with rfl|rfl|rfl|rfl|rfl|rfl|rfl
 ·simp[aO] at hz
 all_goals
  match r,hz with
  |0,hz=>
   obtain rfl:=zq hz;refine⟨zx,zx,zx,?_⟩;exact⟨_,rfl,rfl⟩
  |1,hz=>
   first
    |(simp[aO] at hz;done)
    |(obtain rfl:=zq hz
      refine⟨zx,zx,zx,?_⟩;exact⟨_,rfl,rfl⟩)
  |r+2,hz=>simp[aO] at hz
theorem Rs {p:Nat}(_hp:p≤6):aO p∈rH∧Jv (aO p)=p:=by
 have nW:p=0∨p=1∨p=2∨p=3∨p=4∨p=5∨p=6:=zy;rcases nW with rfl|rfl|rfl|rfl|rfl|rfl|rfl<;>exact⟨zx,rfl⟩
abbrev Rj:=Nat×List UInt8×List Nat×List aG×Bool
def l7:List UInt8→Nat×Nat
 |[]=>(0,0)
 |x::t=>if x=203 then (1,1) else if x=237 then (2,1) else if x=221 then (if t.head? =some 203 then (5,3) else (3,1)) else if x=253 then (if t.head? =some 203 then (6,3) else (4,1)) else (0,0)
def Kg:List Nat→List UInt8→Int→Int→Option (Int×Int)
 |[],_,d,n=>some (d,n)
 |c::ex,z::l,d,n=>if c=100 then Kg ex l (qo (z.toNat:Int)) n else if c=101 then Kg ex l d (qo (z.toNat:Int)) else if c=119 then (match l with|y::l=>Kg ex l d ((z.toNat:Int)+(y.toNat:Int) * 256)|[]=>none) else Kg ex l d (z.toNat:Int)
 |_::_,[],_,_=>none
def FX (p a:Nat)(d:bL)(l:List UInt8):Rj:=match d.1 with
 |0=>(2,l.take 1,[],[],false)
 |3=>(3,l.take 2,[],[],false)
 |_=>match Kg d.2.2.1 (l.drop (if 5≤p then 2 else a+1)) 0 0 with
  |none=>(4,l,[],[],false)
  |some (dv,nv)=>(1,l.take (FB p d),d.2.1,eO (kQ d) (l8 d) (opsL d.2.2.2.2) dv nv,d.2.2.2.1)
def dec (l:List UInt8):Rj:=match l[(l7 l).2]? with
 |none=>(4,l,[],[],false)
 |some o=>match jd (l7 l).1 o.toNat with
  |none=>(4,l,[],[],false)
  |some d=>FX (l7 l).1 (l7 l).2 d l
def ae3 (p:Nat)(ex:List Nat):Bool:=cond (Nat.ble 5 p) (gH ex [100]) (gV ex jQ)
def aen (p o:Nat)(d:bL):Bool:=match d.1 with
 |0=>Nat.ble p 4
 |1=>ae3 p d.2.2.1
 |2=>(Nat.beq p 0 && (Nat.beq o 203 || (Nat.beq o 237 || (Nat.beq o 221 || Nat.beq o 253)))) || ((Nat.beq p 3 || Nat.beq p 4) && Nat.beq o 203)
 |3=>Nat.beq p 2
 |_=>false
theorem JQ:allT aen 0 DF=true:=by kernel_rfl
theorem Ac {r:Int×Int}{v:Option Vr}{z:Int}(hr:Du r v=true)(_h1:r.1≤z)(_h2:z≤r.2):FO v z=true:=by
 cases v with
 |none=>
  simp only[Du,Bool.and_eq_true] at hr;have q1:r.1=0:=eY hr.1;have q2:r.2=0:=eY hr.2;exact zC zy
 |some v=>
  simp only[Du,Bool.and_eq_true] at hr;have q1:=eY hr.1;have q2:=eY hr.2;simp only[FO,qO,Bool.and_eq_true,decide_eq_true_eq];omega
theorem rf {l:List UInt8}{k:Nat}{x:UInt8}(h:l[k]? =some x):(bs l)[k]? =some (.int .u8 (x.toNat:Int)):=by
 simp[bs,h]
theorem XM (z:UInt8): -128≤qo (z.toNat:Int)∧qo (z.toNat:Int)≤127:=by
 have:=z.toNat_lt;unfold qo;split<;>omega
theorem gM {ex:List Nat}(h:gV ex jQ=true):ex=[]∨ex=[100]∨ex=[100,110]∨ex=[101]∨ex=[110]∨ex=[119]:=by
 simp only[jQ,gV] at h
 cases h1:gH ex [] with
 |true=>exact .inl (bJ h1)
 |false=>
 cases h2:gH ex [100] with
 |true=>exact .inr (.inl (bJ h2))
 |false=>
 cases h3:gH ex [100,110] with
 |true=>exact .inr (.inr (.inl (bJ h3)))
 |false=>
 cases h4:gH ex [101] with
 |true=>exact .inr (.inr (.inr (.inl (bJ h4))))
 |false=>
 cases h5:gH ex [110] with
 |true=>exact .inr (.inr (.inr (.inr (.inl (bJ h5)))))
 |false=>
 cases h6:gH ex [119] with
 |true=>exact .inr (.inr (.inr (.inr (.inr (bJ h6)))))
 |false=>rw[h1,h2,h3,h4,h5,h6] at h;cases h
theorem AU {ex:List Nat}(hex:gV ex jQ=true)(l:List UInt8)(a:Nat)(ha:a≤l.length):(∃dv nv,Kg ex (l.drop a) 0 0=some (dv,nv)∧Ext (bs l) ex a 0 0 (a+oG ex) dv nv∧((BU ex).1≤dv∧dv≤(BU ex).2)∧((Dp ex).1≤nv∧nv≤(Dp ex).2)∧a+oG ex≤l.length)∨(Kg ex (l.drop a) 0 0=none∧Sht (bs l) ex a):=by
 have hl:(bs l).length=l.length:=aQ l;have hlen:(l.drop a).length=l.length - a:=zH;have g0:∀x t,l.drop a=x::t→(bs l)[a]? =some (.int .u8 (x.toNat:Int)):=fun x t h=>rf (by have h2:=yg (xs:=l) (i:=a) (j:=0);rw[h] at h2;exact h2.symm)
 have g1:∀x y t,l.drop a=x::y::t→(bs l)[a+1]? =some (.int .u8 (y.toNat:Int)):=fun x y t h=>rf (by rw[← yg (i:=a) (j:=1),h];rfl)
 have nn:∀x:UInt8,(0:Int)≤(x.toNat:Int)∧(x.toNat:Int) < 256:=fun x=>by have:=x.toNat_lt;omega
 match hq:l.drop a with
 |[]=>
  rw[hq] at hlen;have h0:(bs l).length=a:=by simp at hlen;omega
  rcases gM hex with rfl|rfl|rfl|rfl|rfl|rfl
  ·exact .inl ⟨0,0,rfl,⟨rfl,rfl,rfl⟩,⟨zx,zx⟩,⟨zx,zx⟩,ha⟩
  all_goals exact .inr ⟨rfl,.inl ⟨h0,zw⟩⟩
 |[x]=>
  rw[hq] at hlen;have h0:l.length=a+1:=by simp at hlen;omega
  have q0:=g0 x [] hq;have s0:=XM x;have n0:=nn x;rcases gM hex with rfl|rfl|rfl|rfl|rfl|rfl
  ·exact .inl ⟨0,0,rfl,⟨rfl,rfl,rfl⟩,⟨zx,zx⟩,⟨zx,zx⟩,ha⟩
  ·exact .inl ⟨_,0,rfl,.inl ⟨rfl,_,q0,n0.1,n0.2,rfl,rfl,rfl⟩,s0,⟨zx,zx⟩,xL h0.symm⟩
  ·exact .inr ⟨rfl,.inr (.inr ⟨rfl,⟨_,q0,n0⟩,.inl ⟨zy,zw⟩⟩)⟩
  ·exact .inl ⟨0,_,rfl,.inr (.inl ⟨rfl,_,q0,n0.1,n0.2,rfl,rfl,rfl⟩),⟨zx,zx⟩,s0,xL h0.symm⟩
  ·exact .inl ⟨0,_,rfl,.inr (.inr (.inl ⟨rfl,_,q0,n0.1,n0.2,rfl,rfl,rfl⟩)),⟨zx,zx⟩,⟨n0.1,by show (x.toNat:Int)≤255;omega⟩,xL h0.symm⟩
  ·exact .inr ⟨rfl,.inr (.inl ⟨rfl,zy,_,q0,n0⟩)⟩
 |x::y::t=>
  rw[hq] at hlen;have h0:a+2≤l.length:=by simp at hlen;omega
  have q0:=g0 x _ hq;have q1:=g1 x y t hq;have s0:=XM x;have n0:=nn x;have n1:=nn y;rcases gM hex with rfl|rfl|rfl|rfl|rfl|rfl
  ·exact .inl ⟨0,0,rfl,⟨rfl,rfl,rfl⟩,⟨zx,zx⟩,⟨zx,zx⟩,ha⟩
  ·exact .inl ⟨_,0,rfl,.inl ⟨rfl,_,q0,n0.1,n0.2,rfl,rfl,rfl⟩,s0,⟨zx,zx⟩,by show a+1≤_;omega⟩
  ·exact .inl ⟨_,_,rfl,.inl ⟨rfl,_,q0,n0.1,n0.2,.inr (.inr (.inl ⟨rfl,_,q1,n1.1,n1.2,rfl,rfl,rfl⟩))⟩,s0,⟨n1.1,by show (y.toNat:Int)≤255;omega⟩,h0⟩
  ·exact .inl ⟨0,_,rfl,.inr (.inl ⟨rfl,_,q0,n0.1,n0.2,rfl,rfl,rfl⟩),⟨zx,zx⟩,s0,by show a+1≤_;omega⟩
  ·exact .inl ⟨0,_,rfl,.inr (.inr (.inl ⟨rfl,_,q0,n0.1,n0.2,rfl,rfl,rfl⟩)),⟨zx,zx⟩,⟨n0.1,by show (x.toNat:Int)≤255;omega⟩,by show a+1≤_;omega⟩
  ·exact .inl ⟨0,_,rfl,.inr (.inr (.inr ⟨rfl,_,_,q0,n0.1,n0.2,q1,n1.1,n1.2,rfl,rfl,rfl⟩)),⟨zx,zx⟩,⟨by show (0:Int)≤_;omega,by show _≤(65535:Int);omega⟩,h0⟩
end
section
open Go.RowKit Go.Shelf Ex
attribute [local go_sem] wZ
def Gb (B:Nat)(W W':World):Prop:=W.heap.size≤W'.heap.size∧∀(b:Nat) (o:Obj),B≤b→W.heap[b]? =some o→o.isCells=true→W'.heap[b]? =some o
theorem Gb.trans {B:Nat}{X Y Z:World}(h:Gb B X Y)(k:Gb B Y Z):Gb B X Z:=⟨zV h.1 k.1,fun b o hB hb ho=>k.2 b o hB (h.2 b o hB hb ho) ho⟩
theorem Gb.refl (B:Nat)(W:World):Gb B W W:=⟨zn _,fun _ _ _ h _=>h⟩
theorem Gb.putObj {B:Nat}(W:World)(l:Nat)(o o':Obj)(hl:W.heap[l]? =some o)(ho:o.isCells=false):Gb B W (W.putObj l o'):=⟨zw,fun b u _ hb hu=>by
 by_cases e:b=l
 ·subst e;rw[hl] at hb;obtain rfl:=zq hb;rw[ho] at hu
  cases hu
 ·rw[World.putObj_heap_other e];exact hb⟩
theorem Gb.below {B:Nat}{W W':World}(h:Below W.heap.size W W'):Gb B W W':=⟨h.size,fun b _ _ hb _=>(h.block b (lt_of_heap hb)).trans hb⟩
theorem Gb.own {B base n size:Nat}{e:TypeId}{v:Value}{xs:List Value}{W W':World}(hk:Gb B W W')(h:W.ownsRow base e size v n xs)(_hB:B≤base):W'.ownsRow base e size v n xs:=by
 refine⟨h.1,h.2.imp id ?_⟩;rintro ⟨g,cap,cur,p1,p2,p3,p4⟩;exact⟨g,cap,cur,p1,p2,hk.2 g _ zy p3 rfl,p4⟩
theorem Gb.iZ {B B':Nat}{W W':World}{x:gy}(hk:Gb B W W')(h:dF B' W x)(_hB:B≤B'):dF B' W' x:=by
 refine⟨h.d,h.k,h.o,?_⟩;rcases h.r with h|⟨h0,q,m,cur,h1,h2,hh,h'⟩
 ·exact .inl h
 ·exact .inr ⟨h0,q,m,cur,h1,h2,hk.2 q _ zy hh rfl,h'⟩
theorem Ii:∀{L:List gy} {k:Nat} {x:gy} (j:Nat) {u:Value},L[k]? =some x→(di x)[j]? =some u→(pO L)[k * 6+j]? =some u
 |[],k,x,j,u,h,_=>by simp at h
 |y::L,0,x,j,u,h,hu=>by
  obtain rfl:=zq h;have hj:j < (di y).length:=(zf.1 hu).1;show (di y++pO L)[0 * 6+j]? =some u;rw[Nat.zero_mul,yD,xz hj];exact hu
 |y::L,k+1,x,j,u,h,hu=>by
  have h':L[k]? =some x:=by simpa using h
  have:=Ii j h' hu;show (di y++pO L)[(k+1) * 6+j]? =some u;have hl:(di y).length=6:=rfl;rw[yR zy,hl,show (k+1) * 6+j - 6=k * 6+j by omega]
  exact this
theorem adD {W:World}{base n:Nat}{v:Value}{L:List gy}(h:W.ownsRow base 133 6 v n (pO L))(hn:n=L.length){k:Nat}{x:gy}(hx:L[k]? =some x):∃g c,v= .slice (some ⟨g,0,none⟩) n c∧n≤c∧∀(j:Nat) (u:Value),(di x)[j]? =some u→W.cell? ⟨g,k * 6+j,none⟩=some u:=by
 have hk:k < L.length:=(zf.1 hx).1;rcases h.2 with⟨_,h0⟩|⟨g,cap,cur,rfl,_,hh,h1,_,h3,h4⟩
 ·omega
 ·refine⟨g,cap,rfl,h1,fun j u hu=>?_⟩
  have h5:=Ii j hx hu;have hj:j < 6:=(zf.1 hu).1;rw[← h4,yj] at h5;split at h5
  ·simp only[World.cell?,hh]
   simpa using h5
  ·cases h5
def aky (nm:List Nat)(lc:List aG)(xs:List gy):Prop:=∀(p o:Nat) (d:bL),p∈bB lc→o < 256→jd p o=some d→d.1=1→d.2.1=nm→∃x,x∈xs∧x.1=(p,o)∧x.2.1=d
theorem abd (s:ByteArray)(A:Option Addr)(n c:Nat)(w:World):
 Calls Tryz.prog 112 #[.agg #[.string s,.slice A n c]] w fun e w'=>e= .returned (.func (.func 181) #[] #[.pointer (some ⟨w.heap.size,0,none⟩)])∧w.alloc (.cells #[.string s,.slice A n c] 28)=w':=by
 go_enter Tryz.func112,Tryz.ntmps112;go_wp2;go_ret;exact⟨rfl,rfl⟩
structure CdW (w W:World)(nm:List Nat)(lc:List aG)(v:Value)(L:List gy):Prop where
 own:W.ownsRow w.heap.size 133 6 v L.length (pO L)
 ok:∀x,x∈L→dF w.heap.size W x∧x.1.1∈bB lc
 len:L.length≤1792
 all:aky nm lc L
theorem CdW.kp {w W W':World}{nm:List Nat}{lc:List aG}{v:Value}{L:List gy}(h:CdW w W nm lc v L)(hk:Gb w.heap.size W W'):CdW w W' nm lc v L:=⟨hk.own h.own (zn _),fun x hx=>⟨hk.iZ (h.ok x hx).1 (zn _),(h.ok x hx).2⟩,h.len,h.all⟩
theorem anP {w W0 W:World}{nm:List Nat}{lc:List aG}{v:Value}{L:List gy}(h:Ga W0 W nm (bB lc) v L (bB lc).length 0)(hs:w.heap.size≤W0.heap.size):CdW w W nm lc v L:=by
 refine⟨?_,fun x hx=>⟨(h.ok x hx).1.mono hs,(h.ok x hx).2⟩,by have:=h.len;have:=DC lc;omega,fun p o d hp ho hd hk hn=>?_⟩
 ·refine⟨h.own.1,h.own.2.imp id ?_⟩;rintro ⟨g,cap,cur,p1,p2,p3⟩;exact⟨g,cap,cur,p1,zy,p3⟩
 ·obtain⟨j,hj⟩:=wS.1 hp;exact h.all p o d (.inl ⟨j,(zf.1 hj).1,hj,ho⟩) hd hk hn
theorem abb (nm:List Nat)(hnm:nm∈fe)(lc:List aG)(hlc:lc.length≤3)(hv:∀o∈lc,uV o)(B:Nat)(A:Option Addr)(n5 c:Nat)(hn5:n5=lc.length)(w:World)
 (hB:Bk w B 28 [.string (ag nm),.slice A n5 c]) (hr:Rd w (fun _=>True) A (dD lc)) (hG:eT w):
 afB Fence.wide 2 Tryz.prog 181 #[.pointer (some ⟨B,0,none⟩)] (fun x:gy=>#[.agg (di x).toArray]) (fun x _ W=>dF w.heap.size W x∧x.1.1∈bB lc) (Gb w.heap.size) (aky nm lc) (fun _=>True) w:=fun l J Jx W hW hJ hJx hY h0=>by
 have CP:Hid (∀W1,Below W.heap.size W W1→Calls Tryz.prog 183 #[.agg #[.string (ag nm),.slice A n5 c]] W1 fun e w'=>∃A' c',e= .returned (.slice A' (bB lc).length c')∧Rd w' (fun _=>True) A' (Nt (bB lc))∧Below W1.heap.size W1 w'):=fun W1 hb=>UT (ag nm) A lc n5 c W1 _ hn5 zy hv (hG.after (hW.trans (hb.mono hW.size))) (hr.after (hW.trans (hb.mono hW.size)))
 have CN:Hid (∀W1 A' c',Below W.heap.size W W1→Rd W1 (fun _=>True) A' (Nt (bB lc))→Calls Tryz.prog 182 #[.string (ag nm),.slice A' (bB lc).length c'] W1 fun e w'=>∃v L,e= .returned v∧Ga W1 w' nm (bB lc) v L (bB lc).length 0):=fun W1 A' c' hb r=>Ve nm hnm (bB lc) (UU lc) (Af lc) (DC lc) A' _ c' W1 _ rfl (hG.after (hW.trans (hb.mono hW.size))) r
 have K0:Hid (Bk W B 28 [.string (ag nm),.slice A n5 c]):=hB.after hW;have x0:=K0.cell 0 rfl;have x1:=K0.cell 1 rfl;have HW:=zo hW;have HJ:=zo (show ∀W1,Below W.heap.size W W1→J [] W1 from fun W1 hb=>hJ [] W _ none h0 (grownBy_below hb none) (fun r e=>by cases e))
 have HYY:=zo hY;clear hB hr hG hv hlc hn5 h0 hJ hJx hY hW;refine callsIn_of_wp Tryz.func181 rfl trivial ?_ rfl;simp only[Tryz.ntmps181,List.size_toArray,List.length_cons,List.length_nil,Nat.reduceAdd,Nat.reduceSub,Array.replicate_succ,Array.replicate_zero,List.push_toArray,List.append_toArray,List.nil_append,List.cons_append];have hmx:Tryz.prog.follows .mixedOrders=true:=by kernel_rfl
 have OO:Hid (Below W.heap.size W W.drew):=aL (zh _ _);have xd0:W.drew.cell? ⟨B,0,none⟩=some (.string (ag nm)):=x0;have xd1:W.drew.cell? ⟨B,1,none⟩=some (.slice A n5 c):=x1;gi_wp2
 gi_region_with_o (first
  |(refine⟨trivial,?_⟩;gi_at_call 183;refine (ym.2 (CP.out _ OO.out)).mono ?_;rintro e W1 ⟨A1,c1,rfl,hr1,hb1⟩;have HB1:=zo (OO.trans (hb1.mono OO.size));have HR1:=zo hr1;have y0:=BC hb1 xd0;have y1:=BC hb1 xd1;clear hb1 hr1)
  |(refine⟨trivial,?_⟩;gi_at_call 182;refine (ym.2 (CN.out _ _ _ HB1.out HR1.out)).mono ?_;rintro e W2 ⟨v,L,rfl,aeA⟩;have HB2:=zo (HB1.trans (aeA.bl.mono HB1.size));have H2:=zo (anP aeA (zV HW.size HB1.size));obtain⟨A2,c2,rfl,aqI,_⟩:=bg aeA.own;clear aeA))
 all_goals
  have hLn:(L.length:Int)≤1792:=by
   have:=H2.len;omega
  have HJ2:=zo (HJ.out W2 HB2.out);clear y0 y1 HB1 HR1 OO xd0 xd1 x0 x1 CP CN K0 aqI;gi_wp2
  gi_loopw [11] (fun v wr=>∃k:Nat,v= .int .i64 (k:Int)∧k≤L.length∧Hid (J (L.take k) wr)∧Hid (CdW w wr nm lc (.slice A2 L.length c2) L)) (fun v _=>L.length - (intOf v).toNat)
  case atStart=>exact⟨0,rfl,zF _,HJ2.out,H2.out⟩
  case round=>
   obtain⟨k,rfl,hk,hj,hw⟩:=hrel;clear H2 HJ2 HB2;by_cases hlt:k < L.length
   ·obtain⟨x,hx⟩:∃x,L[k]? =some x:=⟨_,zg hlt⟩;obtain⟨g,c3,hv,hc3,hcell⟩:=adD hw.own rfl hx
    obtain⟨rfl,rfl⟩:A2=some ⟨g,0,none⟩∧c2=c3:=by
     injection hv with a1 a2 a3
     exact⟨a1,a3⟩
    have HT:Hid (L.take (k+1)=L.take k++[x]):=by
     rw[Hid,xh,hx];rfl
    have hok:=hw.ok x (zD hx);clear hv hx;obtain⟨⟨p,o⟩,d,A9,c9⟩:=x;have q0:wr.cell? ⟨g,k * 6,none⟩=some (.int .i64 (p:Int)):=hcell 0 _ rfl;have q1:=hcell 1 _ rfl;have q2:=hcell 2 _ rfl;have q3:=hcell 3 _ rfl;have q4:=hcell 4 _ rfl;have q5:=hcell 5 _ rfl;have hBl:Below wr.heap.size wr (wr.alloc (.cells #[.int .i64 (p:Int),.int .u8 (o:Int),.string (ag d.2.1),.slice A9 (d.2.2.2.2.length / 3) c9,.string (ag d.2.2.1),.bool d.2.2.2.1] 133)):=(zh _ _).alloc (zn _) _;have HW1:=zo (hw.kp (Gb.below hBl));have jq:Hid (Bk (wr.alloc (.cells #[.int .i64 (p:Int),.int .u8 (o:Int),.string (ag d.2.1),.slice A9 (d.2.2.2.2.length / 3) c9,.string (ag d.2.2.1),.bool d.2.2.2.1] 133)) wr.heap.size 133 [.int .i64 (p:Int),.int .u8 (o:Int),.string (ag d.2.1),.slice A9 (d.2.2.2.2.length / 3) c9,.string (ag d.2.2.1),.bool d.2.2.2.1]):=Bk.new wr _ _;obtain⟨fn,tmps,assign,body,hy,hR⟩:=HYY.out (L.take k) ((p,o),d,A9,c9) wr (wr.alloc (.cells #[.int .i64 (p:Int),.int .u8 (o:Int),.string (ag d.2.1),.slice A9 (d.2.2.2.2.length / 3) c9,.string (ag d.2.2.1),.bool d.2.2.2.1] 133)) trivial hj.out hBl ⟨hok.1.after hBl,hok.2⟩;dsimp only[di] at hy;have z0:=jq.cell 0 rfl;have z1:=jq.cell 1 rfl;have z2:=jq.cell 2 rfl;have z3:=jq.cell 3 rfl;have z4:=jq.cell 4 rfl;have z5:=jq.cell 5 rfl;clear hcell hok hBl hj;gi_wp2;refine hR.mono ?_;rintro e W3 (⟨rfl,hJ3,hk3⟩|⟨rfl,hJx3⟩)
    ·have HW3:=zo (HW1.kp hk3);rw[← HT.out] at hJ3;have HJ3:=zo hJ3;clear hJ3 hk3 z0 z1 z2 z3 z4 z5 q0 q1 q2 q3 q4 q5;gi_wp2;go_roundw
     case rel=>exact⟨k+1,by go_num,hlt,HJ3.out,HW3.out⟩
     case measure=>simp[intOf];omega
    ·have HJx:=zo hJx3;clear hJx3;gi_wp2;refine xx (results_none rfl _ _ _) rfl ?_;exact⟨⟨_,rfl⟩,.inr ⟨_,trivial,HJx.out⟩⟩
   ·have HX:=zo hj.out;rw[yn zy] at HX;gi_wp2;go_end0;exact⟨⟨_,rfl⟩,.inl ⟨L,hw.all,HX.out⟩⟩
end
