/- Parts of the proof of TopInstructions. -/
import Derived.Test.YtceaodnohnekkaaGreatDoorMK3
import Derived.Test.YtceaodnohnekkaaGreatDoorMK4
import Derived.Test.YtceaodnohnekkaaGreatDoorMK10
import Derived.Test.YtceaodnohnekkaaGreatDoorMK11
import Derived.Test.YtceaodnohnekkaaGreatDoorMKk
import Derived.Test.YtceaodnohnekkaaGreatDoorMK12
namespace Go.Proofs.YtceaodnohnekkaaGreatDoor
open Go.RowKit Ex
def bB (s:ByteArray)(lc:List ay)(d:aJ):Bool:=decide (d.1=1) && (!d.2.2.2.1 && bK (aa d.2.1) s (opsL d.2.2.2.2) lc)
def fZ (s:ByteArray)(lc:List ay)(d:aJ):Bool:=bB s lc d && sU d.2.2.1 (opsL d.2.2.2.2) lc
def tY (s:ByteArray)(lc:List ay)(P Q:Int)(code:Int):Prop:=
 (code=0∧∃(p o:Nat) (d:aJ),P≤(p:Int)∧(p:Int)≤Q∧o < 256∧gL p o=some d∧fZ s lc d=true)∨
 (code=2∧(∃(p o:Nat) (d:aJ),P≤(p:Int)∧(p:Int)≤Q∧o < 256∧gL p o=some d∧bB s lc d=true)∧∀(p o:Nat) (d:aJ),P≤(p:Int)→(p:Int)≤Q→o < 256→gL p o=some d→fZ s lc d=false)∨
 (code=11∧∀(p o:Nat) (d:aJ),P≤(p:Int)→(p:Int)≤Q→o < 256→gL p o=some d→bB s lc d=false)
end Go.Proofs.YtceaodnohnekkaaGreatDoor
namespace Go.Proofs.YtceaodnohnekkaaGreatDoor.Ex
open Go.RowKit
def RG:List Nat→Bool
 |[]=>true
 |x::l=>cond (Nat.blt x 256) (RG l) false
def Zc (_p _o:Nat)(d:aJ):Bool:=Nat.beq (Nat.mod d.2.2.2.2.length 3) 0 && (Nat.ble d.2.2.2.2.length 9 && (lU d.2.2.1 DZ && RG d.2.1))
theorem LB:allT Zc 0 Ga=true:=by kernel_rfl
theorem Bu:∀{l:List Nat},RG l=true→∀x∈l,x < 256
 |[],_,_,h=>by cases h
 |y::l,h,x,hx=>by
  unfold RG at h
  cases hy:Nat.blt y 256 with
  |false=>rw[hy] at h;cases h
  |true=>
   rw[hy] at h
   rcases List.mem_cons.1 hx with rfl | hx
   ·simpa using hy
   ·exact Bu h x hx
theorem jh {p o:Nat}{d:aJ}(hd:gL p o=some d):d.2.2.2.2.length % 3=0∧d.2.2.2.2.length≤9∧lU d.2.2.1 DZ=true∧∀x∈d.2.1,x < 256:=by
 have h:=gp LB hd
 unfold Zc at h
 simp only[Bool.and_eq_true] at h
 obtain⟨h1,h2,h3,h4⟩:=h
 exact⟨(beq_iff _ _).1 h1,Nat.le_of_ble_eq_true h2,h3,Bu h4⟩
theorem CX {p o:Nat}{d:aJ}(hd:gL p o=some d):lQ d=bE (opsL d.2.2.2.2)∧(opsL d.2.2.2.2).length=d.2.2.2.2.length / 3∧(opsL d.2.2.2.2).length≤3:=by
 obtain⟨h1,h2,_,_⟩:=jh hd
 have h3:=wW _ h1
 exact⟨(OO _ h1).symm,h3,by omega⟩
end Go.Proofs.YtceaodnohnekkaaGreatDoor.Ex
namespace Go.Proofs.YtceaodnohnekkaaGreatDoor
open Go.RowKit Ex
theorem FW:∀{cs:List Nat} {k n:Nat},cs.length % 3=0→eD cs (k * 3+2)=some n→dC (opsL cs) k=(n:Int)
 |[],k,n,_,h=>by cases h
 |[_],_,_,h,_=>by simp at h
 |[_,_],_,_,h,_=>by simp at h
 |a::b::c::l,0,n,_,h=>by
  have h':some c=some n:=h
  obtain rfl:=zx h'
  rfl
 |a::b::c::l,k+1,n,hm,h=>by
  have h':eD l (k * 3+2)=some n:=by
   rw[show (k+1) * 3+2=(k * 3+2)+3 by omega] at h
   exact h
  have:=FW (cs:=l) (by simp only[List.length_cons] at hm;omega) h'
  unfold dC at this ⊢
  simpa only[opsL,List.getElem?_cons_succ] using this
theorem Og {cs:List Nat}(hm:cs.length % 3=0){v:Option Vr}(h:afp cs v=true):vOk (opsL cs) v:=fun x hx=>by
 subst hx
 simp only[afp,Bool.and_eq_true] at h
 obtain⟨h1,h2⟩:=h
 have h2:=aT h2
 refine⟨by rw[wW _ hm];omega,?_⟩
 unfold zAt at h1
 split at h1
 ·rename_i n hn
  obtain rfl:=(beq_iff _ _).1 h1
  exact FW hm hn
 ·cases h1
def aiF (_p _o:Nat)(d:aJ):Bool:=match d.1 with
 |1=>[0,1,2].all fun k=>Nat.ble (opsL d.2.2.2.2).length k || afU (rgL (gB d.2.2.1 (opsL d.2.2.2.2) k)) (qx (ry (bM d.2.2.2.2) d.2.2.1) (Dp (bM d.2.2.2.2) d.2.2.1) k)
 |_=>true
theorem UX:allT aiF 0 Ga=true:=by kernel_rfl
theorem Da:∀{a b:Option (Int×Int)},afU a b=true→a=b
 |none,none,_=>rfl
 |some a,some b,h=>by
  simp only[afU,Bool.and_eq_true] at h
  obtain⟨a1,a2⟩:=a
  obtain⟨b1,b2⟩:=b
  obtain rfl:=jd h.1
  obtain rfl:=jd h.2
  rfl
 |none,some _,h=>by cases h
 |some _,none,h=>by cases h
abbrev mP (d:aJ):Option Vr:=ry (bM d.2.2.2.2) d.2.2.1
abbrev oW (d:aJ):Option Vr:=Dp (bM d.2.2.2.2) d.2.2.1
structure aoJ (p:Nat)(d:aJ):Prop where
 vd:vOk (opsL d.2.2.2.2) (mP d)
 vn:vOk (opsL d.2.2.2.2) (oW d)
 ne:∀x y,mP d=some x→oW d=some y→x.1≠y.1
 rd:wR (wO d.2.2.1) (mP d)=true
 rn:wR (wN d.2.2.1) (oW d)=true
 pg:Zv p (Nj d.2.2.2.2)=true
 nm:d.2.1≠[]
 lt:∀k,k < (opsL d.2.2.2.2).length→rgL (gB d.2.2.1 (opsL d.2.2.2.2) k)=qx (mP d) (oW d) k
theorem jo {p o:Nat}{d:aJ}(hd:gL p o=some d)(hk:d.1=1):aoJ p d:=by
 have h1:=gp NB hd
 have h2:=gp UX hd
 obtain⟨m1,m2,_,_⟩:=jh hd
 obtain⟨_,_,h9⟩:=CX hd
 unfold acD at h1
 unfold aiF at h2
 rw[hk] at h1 h2
 simp only[Bool.and_eq_true,Bool.not_eq_true'] at h1
 obtain⟨a1,a2,a3,a4,a5,_,a7,_,a9⟩:=h1
 refine⟨Og m1 a1,Og m1 a2,fun x y hx hy e=>?_,a4,a5,a7,fun e=>?_,fun k hk'=>?_⟩
 ·unfold mP at hx
  unfold oW at hy
  rw[hx,hy] at a3
  simp only[aiB,Bool.not_eq_true'] at a3
  rw[(beq_iff _ _).2 e] at a3
  cases a3
 ·rw[e] at a9
  cases a9
 ·simp only[List.all_cons,List.all_nil,Bool.and_true,Bool.and_eq_true,Bool.or_eq_true] at h2
  obtain⟨b0,b1,b2⟩:=h2
  have hk3:k=0∨k=1∨k=2:=by omega
  rcases hk3 with rfl | rfl | rfl
  ·rcases b0 with b | b
   ·have:=Nat.le_of_ble_eq_true b;omega
   ·exact Da b
  ·rcases b1 with b | b
   ·have:=Nat.le_of_ble_eq_true b;omega
   ·exact Da b
  ·rcases b2 with b | b
   ·have:=Nat.le_of_ble_eq_true b;omega
   ·exact Da b
theorem ac1 {a b:Bool}(h:a=true↔b=true):a=b:=by
 cases a <;> cases b <;> simp_all
theorem xU {p:Nat}{d:aJ}(h:aoJ p d){lc:List ay}(hs:(opsL d.2.2.2.2).map aY=lc.map aY):nE (mP d) (oW d) (opsL d.2.2.2.2) lc=sU d.2.2.1 (opsL d.2.2.2.2) lc:=by
 have hlen:=r9 hs
 refine ac1 ((acd hs h.vd h.vn h.ne).trans ?_)
 unfold acg sU
 rw[List.all_eq_true]
 have one:∀(k:Nat) (o:ay),lc[k]? =some o→((match qx (mP d) (oW d) k with | some r=>qU r.1 r.2 o.2.2=true | none=>o.2.2=dC (opsL d.2.2.2.2) k)↔vg d.2.2.1 (opsL d.2.2.2.2) lc k=true):=fun k o hk=>by
  have hkl:k < (opsL d.2.2.2.2).length:=by
   have:=(List.getElem?_eq_some_iff.1 hk).1
   omega
  have h1:=h.lt k hkl
  unfold vg
  rw[bJ hk]
  rcases Jd d.2.2.1 (opsL d.2.2.2.2) k with h0 | hm
  ·rw[h0] at h1 ⊢
   rw[← h1,if_pos rfl]
   show o.2.2=_↔_
   rw[decide_eq_true_eq]
   exact eq_comm
  ·generalize gB d.2.2.1 (opsL d.2.2.2.2) k=t at h1 hm
   simp only[cO,List.mem_cons,List.not_mem_nil,or_false] at hm
   rcases hm with rfl | rfl | rfl | rfl
   all_goals
    rw[← h1,if_neg (by decide)]
    exact Iff.rfl
 constructor
 ·intro h1 k hk
  have hk':=List.mem_range.1 hk
  obtain⟨o,ho⟩:∃o,lc[k]? =some o:=⟨_,List.getElem?_eq_getElem hk'⟩
  exact (one k o ho).1 (h1 k o ho)
 ·intro h1 k o ho
  exact (one k o ho).2 (h1 k (List.mem_range.2 (List.getElem?_eq_some_iff.1 ho).1))
def Uv:List Nat→List Nat
 |[]=>[0,1,2]
 |x::l=>if x=5 then [3,5] else if x=6 then [4,6] else Uv l
theorem uz:∀l:List ay,bf l=Uv (l.map jH)
 |[]=>rfl
 |o::l=>by
  show (if jH o=5 then [3,5] else if jH o=6 then [4,6] else bf l)=if jH o=5 then [3,5] else if jH o=6 then [4,6] else Uv (l.map jH)
  rw[uz l]
theorem FX:∀cs:List Nat,cs.length % 3=0→(opsL cs).map jH=Nj cs
 |[],_=>rfl
 |[_],h=>by simp at h
 |[_,_],h=>by simp at h
 |a::b::c::l,h=>by
  have ih:=FX l (by simp only[List.length_cons] at h;omega)
  show jH ((a:Int),(b:Int),(c:Int))::(opsL l).map jH=Ni a b::Nj l
  rw[ih]
  rfl
theorem Tm {le lc:List ay}(h:le.map aY=lc.map aY):le.map jH=lc.map jH:=by
 have:=congrArg (List.map jH) h
 rw[List.map_map,List.map_map] at this
 exact this
theorem Vd {o:ay}(h:nU o):fU o= !(Nat.beq (jH o) 0):=by
 obtain⟨k,j,h1,h2,h3,h4,h5⟩:=h
 unfold fU jH
 rw[h1,h2]
 simp only[Int.toNat_natCast]
 have hk:k=1∨k=2∨k=3∨k=4∨k=5∨k=6∨k=7∨k=8∨k=9∨k=10:=by omega
 rcases hk with rfl | rfl | rfl | rfl | rfl | rfl | rfl | rfl | rfl | rfl
 all_goals
  simp only[ng,List.mem_cons,List.not_mem_nil,or_false] at h5
  rcases h5 with h5
  first
   |(rcases h5 with rfl | rfl | rfl | rfl | rfl | rfl | rfl | rfl <;> rfl)
   |(rcases h5 with rfl | rfl | rfl | rfl | rfl | rfl | rfl <;> rfl)
   |(rcases h5 with rfl | rfl | rfl | rfl <;> rfl)
   |(rcases h5 with rfl | rfl <;> rfl)
   |(subst h5;rfl)
theorem Sk:∀{l:List ay},(∀o∈l,nU o)→l.any fU=(l.map jH).any fun x=>!(Nat.beq x 0)
 |[],_=>rfl
 |o::l,h=>by
  rw[List.any_cons,List.map_cons,List.any_cons,Vd (h o List.mem_cons_self),Sk fun x hx=>h x (List.mem_cons_of_mem _ hx)]
theorem qB:∀{l:List Nat},isZero l=true→Uv l=[0,1,2]∧(l.any fun x=>!(Nat.beq x 0))=false
 |[],_=>⟨rfl,rfl⟩
 |x::l,h=>by
  simp only[isZero,List.all_cons,Bool.and_eq_true] at h
  obtain rfl:=(beq_iff _ _).1 h.1
  obtain⟨h1,h2⟩:=qB (l:=l) h.2
  exact⟨h1,h2⟩
theorem qC {q:Nat}{L:List Nat}(hq:q=5∧L=[3,5]∨q=6∧L=[4,6]):∀{l:List Nat},(l.all fun x=>Nat.beq x 0 || Nat.beq x q)=true→(l.any fun x=>Nat.beq x q)=true→Uv l=L∧(l.any fun x=>!(Nat.beq x 0))=true
 |[],_,h=>by cases h
 |x::l,h,h'=>by
  simp only[List.all_cons,Bool.and_eq_true,Bool.or_eq_true] at h
  rw[List.any_cons] at h'
  unfold Uv
  rcases h.1 with h0 | h0
  ·obtain rfl:=(beq_iff _ _).1 h0
   have hq0:Nat.beq 0 q=false:=by rcases hq with⟨rfl,_⟩ | ⟨rfl,_⟩ <;> rfl
   rw[hq0,Bool.false_or] at h'
   obtain⟨h1,h2⟩:=qC hq h.2 h'
   rw[if_neg (by decide),if_neg (by decide)]
   exact⟨h1,by rw[List.any_cons,h2];rfl⟩
  ·obtain rfl:=(beq_iff _ _).1 h0
   rcases hq with⟨rfl,rfl⟩ | ⟨rfl,rfl⟩
   ·exact⟨rfl,rfl⟩
   ·exact⟨rfl,rfl⟩
theorem M7 {p:Nat}{d:aJ}(h:aoJ p d)(hm:d.2.2.2.2.length % 3=0)(hp:p≤6){lc:List ay}(hv:∀o∈lc,nU o)(hs:(opsL d.2.2.2.2).map aY=lc.map aY):p∈bf lc∧oU lc≤(p:Int)∧(p:Int)≤sK lc:=by
 have e1:lc.map jH=Nj d.2.2.2.2:=by rw[← Tm hs,FX _ hm]
 have uG:=h.pg
 rw[uz,e1]
 unfold oU sK
 rw[Sk hv,e1]
 generalize Nj d.2.2.2.2=il at uG
 have uF:p=0∨p=1∨p=2∨p=3∨p=4∨p=5∨p=6:=by omega
 rcases uF with rfl | rfl | rfl | rfl | rfl | rfl | rfl
 ·obtain⟨a,b⟩:=qB uG
  rw[a,b];simp
 ·obtain⟨a,b⟩:=qB uG
  rw[a,b];simp
 ·obtain⟨a,b⟩:=qB uG
  rw[a,b];simp
 all_goals
  simp only[Zv,Ji,Bool.and_eq_true] at uG
 ·obtain⟨a,b⟩:=qC (.inl ⟨rfl,rfl⟩) uG.1 uG.2
  rw[a,b];simp
 ·obtain⟨a,b⟩:=qC (.inr ⟨rfl,rfl⟩) uG.1 uG.2
  rw[a,b];simp
 ·obtain⟨a,b⟩:=qC (.inl ⟨rfl,rfl⟩) uG.1 uG.2
  rw[a,b];simp
 ·obtain⟨a,b⟩:=qC (.inr ⟨rfl,rfl⟩) uG.1 uG.2
  rw[a,b];simp
def nV (s:ByteArray)(lc:List ay)(code:Int):Prop:=
 (code=0∧∃(p o:Nat) (d:aJ),p≤6∧o < 256∧gL p o=some d∧fZ s lc d=true)∨
 (code=2∧(∃(p o:Nat) (d:aJ),p≤6∧o < 256∧gL p o=some d∧bB s lc d=true)∧∀(p o:Nat) (d:aJ),p≤6→o < 256→gL p o=some d→fZ s lc d=false)∨
 (code=11∧∀(p o:Nat) (d:aJ),p≤6→o < 256→gL p o=some d→bB s lc d=false)
theorem fV {s:ByteArray}{lc:List ay}{d:aJ}(h:fZ s lc d=true):bB s lc d=true:=by
 unfold fZ at h
 simp only[Bool.and_eq_true] at h
 exact h.1
theorem Vi {s:ByteArray}{lc:List ay}{a b:Int}(ha:nV s lc a)(hb:nV s lc b):a=b:=by
 rcases ha with⟨rfl,p,o,d,h1,h2,h3,h4⟩ | ⟨rfl,⟨p,o,d,h1,h2,h3,h4⟩,h5⟩ | ⟨rfl,h5⟩ <;> rcases hb with⟨rfl,p',o',d',k1,k2,k3,k4⟩ | ⟨rfl,⟨p',o',d',k1,k2,k3,k4⟩,k5⟩ | ⟨rfl,k5⟩
 ·rfl
 ·rw[k5 p o d h1 h2 h3] at h4;cases h4
 ·have:=fV h4;rw[k5 p o d h1 h2 h3] at this;cases this
 ·rw[h5 p' o' d' k1 k2 k3] at k4;cases k4
 ·rfl
 ·rw[k5 p o d h1 h2 h3] at h4;cases h4
 ·have:=fV k4;rw[h5 p' o' d' k1 k2 k3] at this;cases this
 ·rw[h5 p' o' d' k1 k2 k3] at k4;cases k4
 ·rfl
theorem fP {s:ByteArray}{lc:List ay}{d:aJ}(h:bB s lc d=true):d.1=1∧d.2.2.2.1=false∧aa d.2.1=s∧(opsL d.2.2.2.2).map aY=lc.map aY:=by
 unfold bB bK at h
 simp only[Bool.and_eq_true,decide_eq_true_eq,Bool.not_eq_true'] at h
 exact⟨h.1,h.2.1,h.2.2.1,h.2.2.2⟩
theorem xw {s:ByteArray}{lc:List ay}(hv:∀o∈lc,nU o){p o:Nat}{d:aJ}(hp:p≤6)(hd:gL p o=some d)(h:bB s lc d=true):p∈bf lc∧oU lc≤(p:Int)∧(p:Int)≤sK lc:=by
 obtain⟨h1,_,_,h4⟩:=fP h
 exact M7 (jo hd h1) (jh hd).1 hp hv h4
theorem Vk {s:ByteArray}{lc:List ay}{code:Int}(hv:∀o∈lc,nU o)(h:tY s lc (oU lc) (sK lc) code):nV s lc code:=by
 have hQ:sK lc≤6:=by unfold sK;split <;> decide
 rcases h with⟨rfl,p,o,d,h1,h2,h3,h4,h5⟩ | ⟨rfl,⟨p,o,d,h1,h2,h3,h4,h5⟩,h6⟩ | ⟨rfl,h6⟩
 ·exact .inl ⟨rfl,p,o,d,by omega,h3,h4,h5⟩
 ·refine .inr (.inl ⟨rfl,⟨p,o,d,by omega,h3,h4,h5⟩,fun p' o' d' k1 k2 k3=>?_⟩)
  cases hf:fZ s lc d' with
  |false=>rfl
  |true=>
   obtain⟨_,q1,q2⟩:=xw hv k1 k3 (fV hf)
   rw[h6 p' o' d' q1 q2 k2 k3] at hf
   cases hf
 ·refine .inr (.inr ⟨rfl,fun p' o' d' k1 k2 k3=>?_⟩)
  cases hf:bB s lc d' with
  |false=>rfl
  |true=>
   obtain⟨_,q1,q2⟩:=xw hv k1 k3 hf
   rw[h6 p' o' d' q1 q2 k2 k3] at hf
   cases hf
structure FnW (w W:World)(s:ByteArray)(A:Option Addr)(n c:Nat)(b5:Nat)(A5:Option Addr)(n5 c5:Nat)(lc:List ay):Prop where
 b0:Bk W w.heap.size 24 [.string s,.slice A n c]
 b1:Bk W (w.heap.size+1) 31 [.int .i64 0,.int .u8 0,.string ⟨#[]⟩,.slice none 0 0,.string ⟨#[]⟩,.bool false]
 b5:Bk W b5 24 [.string s,.slice A5 n5 c5]
 r5:Rd W (fun _=>True) A5 (bE lc)
 bl:Below w.heap.size w W
theorem FnW.after {w W W':World}{s:ByteArray}{A:Option Addr}{n c b5:Nat}{A5:Option Addr}{n5 c5:Nat}{lc:List ay}(h:FnW w W s A n c b5 A5 n5 c5 lc)(hb:Below W.heap.size W W'):FnW w W' s A n c b5 A5 n5 c5 lc:=
 ⟨h.b0.after hb,h.b1.after hb,h.b5.after hb,h.r5.after hb,h.bl.trans (hb.mono h.bl.size)⟩
def aoK (E:Value):Prop:=∃(p0 o0:Int) (UK:ByteArray) (A0:Option Addr) (n0 c0:Nat) (Vu:ByteArray) (WR:Bool),E= .agg #[.int .i64 p0,.int .u8 o0,.string UK,.slice A0 n0 c0,.string Vu,.bool WR]
set_option maxHeartbeats 4000000 in
theorem Uq (s:ByteArray)(A:Option Addr)(l:List ay)(n c:Nat)(w:World)(p:Nat→Prop)(hG:gJ w)(hn:l.length=n)(hm:(n:Int)≤1000)(h64:∀o∈l,mQ o)(h:Rd w p A (bE l))(hbad:eF s l≠0):
 Calls Tryz.prog 6 #[.agg #[.string s,.slice A n c]] w fun e w'=>∃E,e= .returned (.tuple #[E,.int .i64 (eF s l:Nat)])∧aoK E∧Below w.heap.size w w':=by
 have C1:Hid (∀W,Below w.heap.size w W→Calls Tryz.prog 18 #[.agg #[.string s,.slice A n c]] W fun e w'=>e= .returned (.int .i64 (eF s l:Nat))∧Below W.heap.size W w'):=fun W hb=>wS s A l n c W p (hG.after hb) hn hm h64 (h.after hb)
 have e1:((eF s l:Nat):Int) != 0:=by
  rw[bne_iff_ne];omega
 clear h hn h64 hG hbad
 generalize eF s l=v at C1 e1 ⊢
 have e1:=zz e1
 have e2:=e1.out
 have HA:Hid (Below w.heap.size w ((w.alloc (.cells #[.string s,.slice A n c] 24)).alloc (.cells #[.int .i64 0,.int .u8 0,.string ⟨#[]⟩,.slice none 0 0,.string ⟨#[]⟩,.bool false] 31))):=((zo _ _).alloc (zu _) _).alloc (by simp) _
 have K0:Hid (Bk ((w.alloc (.cells #[.string s,.slice A n c] 24)).alloc (.cells #[.int .i64 0,.int .u8 0,.string ⟨#[]⟩,.slice none 0 0,.string ⟨#[]⟩,.bool false] 31)) w.heap.size 24 [.string s,.slice A n c]):=(Bk.new w _ _).alloc _
 have K1:Hid (Bk ((w.alloc (.cells #[.string s,.slice A n c] 24)).alloc (.cells #[.int .i64 0,.int .u8 0,.string ⟨#[]⟩,.slice none 0 0,.string ⟨#[]⟩,.bool false] 31)) (w.heap.size+1) 31 [.int .i64 0,.int .u8 0,.string ⟨#[]⟩,.slice none 0 0,.string ⟨#[]⟩,.bool false]):=by
  have:=Bk.new (w.alloc (.cells #[.string s,.slice A n c] 24)) 31 [.int .i64 0,.int .u8 0,.string ⟨#[]⟩,.slice none 0 0,.string ⟨#[]⟩,.bool false]
  rwa [World.size_alloc] at this
 go_enter Tryz.func6,Tryz.ntmps6
 go_upto_region 1 with fail
 generalize ((w.alloc (.cells #[.string s,.slice A n c] 24)).alloc (.cells #[.int .i64 0,.int .u8 0,.string ⟨#[]⟩,.slice none 0 0,.string ⟨#[]⟩,.bool false] 31))=W0 at HA K0 K1 ⊢
 have x0:=K0.out.cell 0 rfl
 have x1:=K0.out.cell 1 rfl
 go_wp2_with (go_at_call 18;refine (C1.out _ HA.out).mono ?_;rintro e w1 ⟨rfl,hb⟩;have HB:=zz (HA.out.trans (hb.mono HA.out.size));have K2:=zz (K1.out.after hb);have y0:=K2.out.cell 0 rfl;have y1:=K2.out.cell 1 rfl;have y2:=K2.out.cell 2 rfl;have y3:=K2.out.cell 3 rfl;have y4:=K2.out.cell 4 rfl;have y5:=K2.out.cell 5 rfl;have f0:=K2.out.frozen 0;have f1:=K2.out.frozen 1;have f2:=K2.out.frozen 2;have f3:=K2.out.frozen 3;have f4:=K2.out.frozen 4;have f5:=K2.out.frozen 5;clear hb)
 have kk:=(((((K2.out.set 0 (.int .i64 0)).set 1 (.int .u8 0)).set 2 (.string ⟨#[]⟩)).set 3 (.slice none 0 0)).set 4 (.string ⟨#[]⟩)).set 5 (.bool false)
 have u0:=kk.cell 0 rfl
 have u1:=kk.cell 1 rfl
 have u2:=kk.cell 2 rfl
 have u3:=kk.cell 3 rfl
 have u4:=kk.cell 4 rfl
 have u5:=kk.cell 5 rfl
 have hle:w.heap.size≤w.heap.size+1:=by omega
 refine bodyPost_ret (v:=.tuple #[.agg #[.int .i64 0,.int .u8 0,.string ⟨#[]⟩,.slice none 0 0,.string ⟨#[]⟩,.bool false],.int .i64 (v:Int)]) (by simp[results,Tryz.results6,go_sem,u0,u1,u2,u3,u4,u5]) rfl ⟨_,rfl,⟨_,_,_,_,_,_,_,_,rfl⟩,(((((HB.out.setCell hle _).setCell hle _).setCell hle _).setCell hle _).setCell hle _).setCell hle _⟩
def Xj (P Q o:Int)(p' o':Nat):Prop:=P≤(p':Int)∧o' < 256∧((p':Int) < Q∨((p':Int)=Q∧(o':Int) < o))
def lG (s:ByteArray)(lc:List ay)(P Q o:Int)(code:Int):Prop:=
 (code=11∧∀(p' o':Nat) (d:aJ),Xj P Q o p' o'→gL p' o'=some d→bB s lc d=false)∨
 (code=2∧(∃(p' o':Nat) (d:aJ),Xj P Q o p' o'∧gL p' o'=some d∧bB s lc d=true)∧∀(p' o':Nat) (d:aJ),Xj P Q o p' o'→gL p' o'=some d→fZ s lc d=false)
theorem Fg (s:ByteArray)(lc:List ay)(P:Int):lG s lc P P 0 11:=.inl ⟨rfl,fun p' o' d h _=>by
 obtain⟨h1,h2,h3⟩:=h
 omega⟩
theorem yV {P Q o:Int}{p' o':Nat}(h:Xj P Q (o+1) p' o'):Xj P Q o p' o'∨((p':Int)=Q∧(o':Int)=o):=by
 obtain⟨h1,h2,h3⟩:=h
 by_cases h:(p':Int)=Q∧(o':Int)=o
 ·exact .inr h
 ·exact .inl ⟨h1,h2,by omega⟩
theorem oJ {s:ByteArray}{lc:List ay}{d:aJ}(h:bB s lc d=false):fZ s lc d=false:=by
 unfold fZ
 rw[h];rfl
theorem ac5 {P Q o:Int}{p' o':Nat}(h:Xj P Q o p' o'):Xj P Q (o+1) p' o':=⟨h.1,h.2.1,by have:=h.2.2;omega⟩
theorem qp {s:ByteArray}{lc:List ay}{P:Int}{p o:Nat}{code:Int}{d:aJ}(h:lG s lc P p o code)(hd:gL p o=some d)(hm:bB s lc d=false):lG s lc P p (o+1:Int) code:=by
 have key:∀(p' o':Nat) (d':aJ),((p':Int)=p∧(o':Int)=o)→gL p' o'=some d'→d'=d:=fun p' o' d' h1 h2=>by
  obtain rfl:p'=p:=by omega
  obtain rfl:o'=o:=by omega
  rw[hd] at h2
  exact (zx h2).symm
 rcases h with⟨rfl,h⟩ | ⟨rfl,⟨p1,o1,d1,h1,h2,h3⟩,h⟩
 ·refine .inl ⟨rfl,fun p' o' d' hb hd'=>?_⟩
  rcases yV hb with hb | hb
  ·exact h p' o' d' hb hd'
  ·rw[key p' o' d' hb hd'];exact hm
 ·refine .inr ⟨rfl,⟨p1,o1,d1,ac5 h1,h2,h3⟩,fun p' o' d' hb hd'=>?_⟩
  rcases yV hb with hb | hb
  ·exact h p' o' d' hb hd'
  ·rw[key p' o' d' hb hd'];exact oJ hm
theorem Te {s:ByteArray}{lc:List ay}{P:Int}{p o:Nat}{code:Int}{d:aJ}(h:lG s lc P p o code)(hd:gL p o=some d)(hP:P≤p)(ho:o < 256)(hm:bB s lc d=true)(hf:fZ s lc d=false):lG s lc P p (o+1:Int) 2:=by
 have key:∀(p' o':Nat) (d':aJ),((p':Int)=p∧(o':Int)=o)→gL p' o'=some d'→d'=d:=fun p' o' d' h1 h2=>by
  obtain rfl:p'=p:=by omega
  obtain rfl:o'=o:=by omega
  rw[hd] at h2
  exact (zx h2).symm
 refine .inr ⟨rfl,⟨p,o,d,⟨hP,ho,.inr ⟨rfl,by omega⟩⟩,hd,hm⟩,fun p' o' d' hb hd'=>?_⟩
 rcases yV hb with hb | hb
 ·rcases h with⟨_,h⟩ | ⟨_,_,h⟩
  ·exact oJ (h p' o' d' hb hd')
  ·exact h p' o' d' hb hd'
 ·rw[key p' o' d' hb hd'];exact hf
theorem Lj {s:ByteArray}{lc:List ay}{P Q:Int}{code:Int}(h:lG s lc P Q 256 code):lG s lc P (Q+1) 0 code:=by
 have key:∀(p' o':Nat),Xj P (Q+1) 0 p' o'→Xj P Q 256 p' o':=fun p' o' hb=>⟨hb.1,hb.2.1,by have h1:=hb.2.1;have h2:=hb.2.2;omega⟩
 have key':∀(p' o':Nat),Xj P Q 256 p' o'→Xj P (Q+1) 0 p' o':=fun p' o' hb=>⟨hb.1,hb.2.1,by have h1:=hb.2.1;have h2:=hb.2.2;omega⟩
 rcases h with⟨rfl,h⟩ | ⟨rfl,⟨p1,o1,d1,h1,h2,h3⟩,h⟩
 ·exact .inl ⟨rfl,fun p' o' d' hb hd'=>h p' o' d' (key _ _ hb) hd'⟩
 ·exact .inr ⟨rfl,⟨p1,o1,d1,key' _ _ h1,h2,h3⟩,fun p' o' d' hb hd'=>h p' o' d' (key _ _ hb) hd'⟩
theorem Tf {s:ByteArray}{lc:List ay}{P Q:Int}{code:Int}(h:lG s lc P (Q+1) 0 code):tY s lc P Q code:=by
 have key:∀(p' o':Nat),P≤(p':Int)→(p':Int)≤Q→o' < 256→Xj P (Q+1) 0 p' o':=fun p' o' h1 h2 h3=>⟨h1,h3,by omega⟩
 rcases h with⟨rfl,h⟩ | ⟨rfl,⟨p1,o1,d1,h1,h2,h3⟩,h⟩
 ·exact .inr (.inr ⟨rfl,fun p' o' d' a1 a2 a3 hd'=>h p' o' d' (key _ _ a1 a2 a3) hd'⟩)
 ·exact .inr (.inl ⟨rfl,⟨p1,o1,d1,h1.1,by have:=h1.2.2;omega,h1.2.1,h2,h3⟩,fun p' o' d' a1 a2 a3 hd'=>h p' o' d' (key _ _ a1 a2 a3) hd'⟩)
theorem aml {p o:Nat}{d:aJ}(hd:gL p o=some d)(w:World)(hG:gJ w):
 Calls Tryz.prog 21 #[.int .i64 (p:Int),.int .u8 (o:Int)] w fun e w'=>∃(p' o':Int) (nm ex:ByteArray) (al:Bool) (A:Option Addr) (n c:Nat),e= .returned (.tuple #[.agg #[.int .i64 p',.int .u8 o',.string nm,.slice A n c,.string ex,.bool al],.int .i64 (d.1:Int)])∧(d.1=1→nm=aa d.2.1∧ex=aa d.2.2.1∧al=d.2.2.2.1∧n=(opsL d.2.2.2.2).length∧Rd w' (fun _=>True) A (bE (opsL d.2.2.2.2)))∧Below w.heap.size w w':=by
 by_cases h1:d.1=1
 ·refine (amk hd h1 w hG).mono ?_
  rintro e w' ⟨A,c,rfl,hr,hb⟩
  obtain⟨e1,e2,_⟩:=CX hd
  refine⟨p,o,aa d.2.1,aa d.2.2.1,d.2.2.2.1,A,_,c,?_,fun _=>⟨rfl,rfl,rfl,e2.symm,by rw[← e1];exact hr⟩,hb⟩
  rw[h1]
  rfl
 ·refine (XY hd w hG).mono ?_
  rintro e w' ⟨p',o',nm,ex,al,A,n,c,rfl,hb⟩
  exact⟨p',o',nm,ex,al,A,n,c,rfl,fun e=>absurd e h1,hb⟩
theorem Nr (l:List ay):(oU l=0∧sK l=2)∨(oU l=3∧sK l=6):=by
 unfold oU sK
 cases l.any fU
 ·exact .inl ⟨rfl,rfl⟩
 ·exact .inr ⟨rfl,rfl⟩
theorem NQ {nm:List Nat}{l:List ay}(h:∀o∈l,mQ o):∀o∈aK nm l,mQ o:=by
 intro o ho
 unfold aK at ho
 obtain⟨a,ha,rfl⟩:=List.mem_map.1 ho
 have hb:mQ a:=by
  rcases Dy (M3 ha) with h1 | rfl
  ·exact h a h1
  ·exact⟨⟨by decide,by decide⟩,⟨by decide,by decide⟩,by decide,by decide⟩
 have hw:=Af nm (iW nm (fC nm l))
 generalize dx nm (iW nm (fC nm l))=wd at hw ⊢
 obtain⟨a0,a1,a2⟩:=a
 obtain⟨b0,b1,b2⟩:=hb
 simp only[nz,nD] at b2
 unfold kv
 simp only[]
 split
 ·rename_i hc
  simp only[Bool.and_eq_true,decide_eq_true_eq] at hc
  obtain⟨_,h1,h2,h3⟩:=hc
  refine⟨b0,b1,?_⟩
  simp only[nz,nD]
  rcases hw with rfl | rfl | rfl
  ·simp at h3
  ·simp at h1 h2 ⊢
   omega
  ·simp at h1 h2 ⊢
   omega
 ·refine⟨b0,b1,?_⟩
  simp only[nz,nD]
  exact b2
structure FnX (w W:World)(s:ByteArray)(A:Option Addr)(n c:Nat)(b5:Nat)(A5:Option Addr)(n5 c5:Nat)(lc:List ay)(b9:Nat)(p o:Int)(nm:ByteArray)(A9:Option Addr)(n9 c9:Nat)(ex:ByteArray)(al:Bool):Prop where
 w:FnW w W s A n c b5 A5 n5 c5 lc
 b9:Bk W b9 31 [.int .i64 p,.int .u8 o,.string nm,.slice A9 n9 c9,.string ex,.bool al]
theorem FnX.after {w W W':World}{s:ByteArray}{A:Option Addr}{n c b5:Nat}{A5:Option Addr}{n5 c5:Nat}{lc:List ay}{b9:Nat}{p o:Int}{nm:ByteArray}{A9:Option Addr}{n9 c9:Nat}{ex:ByteArray}{al:Bool}(h:FnX w W s A n c b5 A5 n5 c5 lc b9 p o nm A9 n9 c9 ex al)(hb:Below W.heap.size W W'):FnX w W' s A n c b5 A5 n5 c5 lc b9 p o nm A9 n9 c9 ex al:=⟨h.w.after hb,h.b9.after hb⟩
theorem FnW.new {w W:World}{s:ByteArray}{A:Option Addr}{n c b5:Nat}{A5:Option Addr}{n5 c5:Nat}{lc:List ay}(h:FnW w W s A n c b5 A5 n5 c5 lc)(p o:Int)(nm:ByteArray)(A9:Option Addr)(n9 c9:Nat)(ex:ByteArray)(al:Bool):FnX w (W.alloc (.cells #[.int .i64 p,.int .u8 o,.string nm,.slice A9 n9 c9,.string ex,.bool al] 31)) s A n c b5 A5 n5 c5 lc W.heap.size p o nm A9 n9 c9 ex al:=
 ⟨h.after ((zo _ _).alloc (zu _) _),Bk.new W _ _⟩
theorem M6 (s:ByteArray)(lc:List ay)(d:aJ):(d.1≠1∧bB s lc d=false)∨(d.1=1∧(d.2.2.2.1=true∧bB s lc d=false∨d.2.2.2.1=false∧(aa d.2.1≠s∧bB s lc d=false∨aa d.2.1=s∧bB s lc d=bK (aa d.2.1) s (opsL d.2.2.2.2) lc))):=by
 unfold bB
 by_cases h1:d.1=1
 ·refine .inr ⟨h1,?_⟩
  cases hal:d.2.2.2.1
  ·refine .inr ⟨rfl,?_⟩
   by_cases hs:aa d.2.1=s
   ·exact .inr ⟨hs,by simp[h1]⟩
   ·refine .inl ⟨hs,?_⟩
    have:bK (aa d.2.1) s (opsL d.2.2.2.2) lc=false:=decide_eq_false fun e=>hs e.1
    simp[this]
  ·exact .inl ⟨rfl,by simp⟩
 ·exact .inl ⟨h1,by simp[h1]⟩
theorem ai0:∀n:Fin 256,IntKind.u8.wrap (n.val:Int)=(n.val:Int):=by decide+kernel
theorem anC (s:ByteArray)(lc:List ay)(d:aJ)(h:bB s lc d=true):fZ s lc d=sU d.2.2.1 (opsL d.2.2.2.2) lc:=by
 unfold fZ
 rw[h];rfl
theorem Vj {s:ByteArray}{lc:List ay}{P Q:Int}{p o:Nat}{d:aJ}(h1:P≤(p:Int))(h2:(p:Int)≤Q)(h3:o < 256)(hd:gL p o=some d)(h:fZ s lc d=true):tY s lc P Q 0:=.inl ⟨rfl,p,o,d,h1,h2,h3,hd,h⟩
def AtR (_ W:World)(_:ByteArray)(_:List ay)(q o:Nat):Prop:=∃d,gL q o=some d∧Calls Tryz.prog 21 #[.int .i64 (q:Int),.int .u8 (o:Int)] W fun e w'=>∃(p' o':Int) (nm ex:ByteArray) (al:Bool) (A:Option Addr) (n c:Nat),e= .returned (.tuple #[.agg #[.int .i64 p',.int .u8 o',.string nm,.slice A n c,.string ex,.bool al],.int .i64 (d.1:Int)])∧(d.1=1→nm=aa d.2.1∧ex=aa d.2.2.1∧al=d.2.2.2.1∧n=(opsL d.2.2.2.2).length∧Rd w' (fun _=>True) A (bE (opsL d.2.2.2.2)))∧Below W.heap.size W w'
set_option maxRecDepth 100000 in
set_option maxHeartbeats 16000000 in
theorem LH (nm:List Nat)(hnm:∀x∈nm,x < 256)(A:Option Addr)(l:List ay)(n c:Nat)(w:World)(p:Nat→Prop)(hG:gJ w)(hn:l.length=n)(hm:l.length≤3)(h64:∀o∈l,mQ o)(h:Rd w p A (bE l))(hok:eF (aa nm) l=0):
 Calls Tryz.prog 6 #[.agg #[.string (aa nm),.slice A n c]] w fun e w'=>∃E code,e= .returned (.tuple #[E,.int .i64 code])∧aoK E∧tY (aa nm) (aK nm l) (oU (aK nm l)) (sK (aK nm l)) code∧Below w.heap.size w w':=by
 have hl5:(aK nm l).length≤3:=l5 nm l hm
 have anu:=NQ (nm:=nm) h64
 have N9:=fun W (hb:Below w.heap.size w W)=>OC nm hnm A l n c W p hn.symm hm h64 (h.after hb)
 obtain⟨lc,hlc⟩:∃lc,aK nm l=lc:=⟨_,rfl⟩
 rw[hlc] at hl5 anu N9 ⊢
 clear hlc
 obtain⟨P,Q,hP,hQ,hPQ,hQ6⟩:∃P Q:Nat,oU lc=(P:Int)∧sK lc=(Q:Int)∧P≤Q∧Q≤6:=by
  rcases Nr lc with⟨h1,h2⟩ | ⟨h1,h2⟩
  ·exact⟨0,2,h1,h2,by decide,by decide⟩
  ·exact⟨3,6,h1,h2,by decide,by decide⟩
 obtain⟨n5,mK⟩:∃n5,lc.length=n5:=⟨_,rfl⟩
 rw[mK] at N9
 have CO:Hid (∀W,Below w.heap.size w W→Calls Tryz.prog 9 #[.agg #[.string (aa nm),.slice A n c]] W fun e w'=>∃A' c',e= .returned (.agg #[.string (aa nm),.slice A' n5 c'])∧Rd w' (fun _=>True) A' (bE lc)∧Below W.heap.size W w'):=N9
 have CC:Hid (∀W,Below w.heap.size w W→Calls Tryz.prog 18 #[.agg #[.string (aa nm),.slice A n c]] W fun e w'=>e= .returned (.int .i64 0)∧Below W.heap.size W w'):=fun W hb=>by
  have:=wS (aa nm) A l n c W p (hG.after hb) hn (by omega) h64 (h.after hb)
  rw[hok] at this
  exact this
 have CF:Hid (∀W A5 c5,Rd W (fun _=>True) A5 (bE lc)→Calls Tryz.prog 19 #[.agg #[.string (aa nm),.slice A5 n5 c5]] W fun e w'=>e= .returned (.int .i64 (P:Int))∧Below W.heap.size W w'):=fun W A5 c5 r=>by
  have:=BF (aa nm) A5 lc n5 c5 W _ mK.symm (by omega) r
  rw[hP] at this
  exact this
 have CL:Hid (∀W A5 c5,Rd W (fun _=>True) A5 (bE lc)→Calls Tryz.prog 20 #[.agg #[.string (aa nm),.slice A5 n5 c5]] W fun e w'=>e= .returned (.int .i64 (Q:Int))∧Below W.heap.size W w'):=fun W A5 c5 r=>by
  have:=abF (aa nm) A5 lc n5 c5 W _ mK.symm (by omega) r
  rw[hQ] at this
  exact this
 have CA:Hid (∀W (q o:Nat),q≤Q→o < 256→Below w.heap.size w W→AtR w W (aa nm) lc q o):=fun W q o hq ho hb=>by
  obtain⟨d,hd⟩:=FZ (p:=q) (o:=o) (by omega) ho
  exact⟨d,hd,aml hd W (hG.after hb)⟩
 have CS:Hid (∀W (p' o':Int) (s' ex:ByteArray) (al:Bool) A9 A5 (le:List ay) (n9 c9 c5:Nat),n9=le.length→le.length≤3→Rd W (fun _=>True) A9 (bE le)→Rd W (fun _=>True) A5 (bE lc)→Calls Tryz.prog 22 #[.agg #[.int .i64 p',.int .u8 o',.string s',.slice A9 n9 c9,.string ex,.bool al],.agg #[.string (aa nm),.slice A5 n5 c5]] W fun e w'=>e= .returned (.bool (bK s' (aa nm) le lc))∧Below W.heap.size W w'):=fun W p' o' s' ex al A9 A5 le n9 c9 c5 h9 h3 r r'=>uu _ _ s' (aa nm) _ _ A9 A5 le lc n9 n5 c9 c5 W _ _ h9 mK.symm (by omega) (by omega) r r'
 have CT:Hid (∀W (p' o':Int) (ex:List Nat) (al:Bool) A9 (le:List ay) (s':ByteArray) (n9 c9:Nat),lU ex DZ=true→n9=le.length→le.length≤3→Rd W (fun _=>True) A9 (bE le)→Below w.heap.size w W→Calls Tryz.prog 23 #[.agg #[.int .i64 p',.int .u8 o',.string s',.slice A9 n9 c9,.string (aa ex),.bool al],.agg #[.string (aa nm),.slice A n c]] W fun e w'=>e= .returned (.bool (bK s' (aa nm) le lc && sU ex le lc))∧Below W.heap.size W w'):=fun W p' o' ex al A9 le s' n9 c9 hx h9 h3 r hb=>Uo _ _ s' (aa nm) ex _ A9 A le lc n9 c9 n c W _ hx h9 h3 hl5 anu r (hG.after hb) fun W' hb'=>by
  have:=N9 W' (hb.trans (hb'.mono hb.size))
  rw[mK]
  exact this
 have HA:Hid (Below w.heap.size w ((w.alloc (.cells #[.string (aa nm),.slice A n c] 24)).alloc (.cells #[.int .i64 0,.int .u8 0,.string ⟨#[]⟩,.slice none 0 0,.string ⟨#[]⟩,.bool false] 31))):=((zo _ _).alloc (zu _) _).alloc (by simp) _
 have K0:Hid (Bk ((w.alloc (.cells #[.string (aa nm),.slice A n c] 24)).alloc (.cells #[.int .i64 0,.int .u8 0,.string ⟨#[]⟩,.slice none 0 0,.string ⟨#[]⟩,.bool false] 31)) w.heap.size 24 [.string (aa nm),.slice A n c]):=(Bk.new w _ _).alloc _
 have K1:Hid (Bk ((w.alloc (.cells #[.string (aa nm),.slice A n c] 24)).alloc (.cells #[.int .i64 0,.int .u8 0,.string ⟨#[]⟩,.slice none 0 0,.string ⟨#[]⟩,.bool false] 31)) (w.heap.size+1) 31 [.int .i64 0,.int .u8 0,.string ⟨#[]⟩,.slice none 0 0,.string ⟨#[]⟩,.bool false]):=by
  have:=Bk.new (w.alloc (.cells #[.string (aa nm),.slice A n c] 24)) 31 [.int .i64 0,.int .u8 0,.string ⟨#[]⟩,.slice none 0 0,.string ⟨#[]⟩,.bool false]
  rwa [World.size_alloc] at this
 rw[hP,hQ]
 have HL:=zz hl5
 have HPQ:=zz hPQ
 have hq6:(Q:Int)≤6:=by omega
 have hp6:(P:Int)≤6:=by omega
 clear hP hQ mK hl5 anu N9 hn hm h64 h hok hG hnm hPQ
 go_enter Tryz.func6,Tryz.ntmps6
 go_upto_region 1 with fail
 generalize ((w.alloc (.cells #[.string (aa nm),.slice A n c] 24)).alloc (.cells #[.int .i64 0,.int .u8 0,.string ⟨#[]⟩,.slice none 0 0,.string ⟨#[]⟩,.bool false] 31))=W0 at HA K0 K1 ⊢
 have x0:=K0.out.cell 0 rfl
 have x1:=K0.out.cell 1 rfl
 go_upto_region 4 with (go_at_call 18;refine (CC.out _ HA.out).mono ?_;rintro e w1 ⟨rfl,hb⟩;have HB1:=zz (HA.out.trans (hb.mono HA.out.size));have L0:=zz (K0.out.after hb);have L1:=zz (K1.out.after hb);have y0:=L0.out.cell 0 rfl;have y1:=L0.out.cell 1 rfl;clear hb)
 clear x0 x1 K0 K1 HA
 go_upto_region 5 with (go_at_call 9;refine (CO.out _ HB1.out).mono ?_;rintro e w2 ⟨A5,c5,rfl,hr,hb⟩;have HW:Hid (FnW w (w2.alloc (.cells #[.string (aa nm),.slice A5 n5 c5] 24)) (aa nm) A n c w2.heap.size A5 n5 c5 lc):=⟨(L0.out.after hb).alloc _,(L1.out.after hb).alloc _,Bk.new w2 _ _,hr.after ((zo _ _).alloc (zu _) _),(HB1.out.trans (hb.mono HB1.out.size)).alloc (zt HB1.out.size hb.size) _⟩;clear hb hr)
 clear y0 y1 L0 L1 HB1 CC CO
 obtain⟨b5,hb5⟩:∃b,w2.heap.size=b:=⟨_,rfl⟩
 rw[hb5] at HW ⊢
 generalize (w2.alloc (.cells #[.string (aa nm),.slice A5 n5 c5] 24))=W1 at HW ⊢
 clear hb5
 have z0:=HW.out.b5.cell 0 rfl
 have z1:=HW.out.b5.cell 1 rfl
 go_wp2_with (go_at_call 19;refine (CF.out _ _ _ HW.out.r5).mono ?_;rintro e w3 ⟨rfl,hb⟩;have HW3:=zz (HW.out.after hb);clear hb)
 clear z0 z1 HW CF
 go_loopw [6,7] (fun v6 v7 wr=>∃(q:Nat) (code:Int),v6= .int .i64 code∧v7= .int .i64 (q:Int)∧P≤q∧q≤Q+1∧Hid (lG (aa nm) lc P q 0 code)∧Hid (FnW w wr (aa nm) A n c b5 A5 n5 c5 lc)) (fun _ v7 _=>Q+1 - (intOf v7).toNat)
 case atStart=>exact⟨P,11,rfl,rfl,zu _,by have:=HPQ.out;omega,Fg _ _ _,HW3.out⟩
 case round=>
  obtain⟨q,code,rfl,rfl,hPq,hqQ,hs,hw⟩:=hrel
  clear HW3
  have x0:=hw.out.b5.cell 0 rfl
  have x1:=hw.out.b5.cell 1 rfl
  by_cases hlt:q≤Q
  ·have hlt':(q:Int)≤Q:=by omega
   go_wp2_with (go_at_call 20;refine (CL.out _ _ _ hw.out.r5).mono ?_;rintro e w4 ⟨rfl,hb⟩;have hw4:=zz (hw.out.after hb);clear hb)
   clear x0 x1 hw
   obtain⟨wo,rfl⟩:∃wo:World,wo=wr:=⟨_,rfl⟩
   go_loopw [6,8] (fun v6 v8 wi=>∃(o:Nat) (code:Int),v6= .int .i64 code∧v8= .int .i64 (o:Int)∧o≤256∧Hid (lG (aa nm) lc P q o code)∧Hid (FnW w wi (aa nm) A n c b5 A5 n5 c5 lc)) (fun _ v8 _=>256 - (intOf v8).toNat)
   case atStart=>exact⟨0,code,rfl,rfl,by omega,hs.out,hw4.out⟩
   case round=>
    clear hs hw4
    obtain⟨o,code,rfl,rfl,ho,hs,hw⟩:=hrel
    by_cases hlo:o < 256
    ·have anm:(o:Int) < 256:=by omega
     have hwr:IntKind.u8.wrap (o:Int)=o:=ai0 ⟨o,hlo⟩
     obtain⟨d,hd,hc⟩:=CA.out wr q o hlt hlo hw.out.bl
     have HC:=zz hc
     have hl3:=(CX hd).2.2
     have HL3:=zz hl3
     have HEX:=zz (jh hd).2.2.1
     have HD:=zz hd
     clear hc hd hl3 CA
     rcases M6 (aa nm) lc d with⟨h1,hm⟩ | ⟨h1,⟨hal,hm⟩ | ⟨hal,⟨hne,hm⟩ | ⟨heq,hm⟩⟩⟩
     ·have HS:=zz (qp hs.out HD.out hm)
      have e1:((d.1:Int) != 1)=true:=by
       rw[bne_iff_ne]
       omega
      clear hm h1
      obtain⟨kd,hkd⟩:∃kd:Int,(d.1:Int)=kd:=⟨_,rfl⟩
      rw[hkd] at HC e1
      clear hkd
      go_wp2_with (go_at_call 21;refine HC.out.mono ?_;rintro e w5 ⟨p',o',uS,ex,al,A9,n9,c9,rfl,_,hb⟩;have HX:=zz ((hw.out.after hb).new p' o' uS A9 n9 c9 ex al);clear hb)
      go_roundw
      case rel=>exact⟨o+1,code,rfl,by go_num,by omega,HS.out,HX.out.w⟩
      case measure=>simp[intOf];omega
     ·have HS:=zz (qp hs.out HD.out hm)
      have e1:((d.1:Int) != 1)=false:=by rw[h1];rfl
      have HH:=zz (zy h1 hal)
      clear hm h1 hal
      obtain⟨kd,hkd⟩:∃kd:Int,(d.1:Int)=kd:=⟨_,rfl⟩
      rw[hkd] at HC e1
      clear hkd
      go_wp2_with (go_at_call 21;refine HC.out.mono ?_;rintro e w5 ⟨p',o',uS,ex,al,A9,n9,c9,rfl,hk,hb⟩;obtain rfl:al=true:=(hk HH.out.1).2.2.1.trans HH.out.2;have HX:=zz ((hw.out.after hb).new p' o' uS A9 n9 c9 ex true);have y5:=HX.out.b9.cell 5 rfl;clear hb hk)
      go_roundw
      case rel=>exact⟨o+1,code,rfl,by go_num,by omega,HS.out,HX.out.w⟩
      case measure=>simp[intOf];omega
     ·have HS:=zz (qp hs.out HD.out hm)
      have e1:((d.1:Int) != 1)=false:=by rw[h1];rfl
      have e2:=rX hne
      have HH:=zz (zy h1 hal)
      clear hm h1 hal hne
      obtain⟨kd,hkd⟩:∃kd:Int,(d.1:Int)=kd:=⟨_,rfl⟩
      rw[hkd] at HC e1
      clear hkd
      go_wp2_with (go_at_call 21;refine HC.out.mono ?_;rintro e w5 ⟨p',o',uS,ex,al,A9,n9,c9,rfl,hk,hb⟩;obtain rfl:al=false:=(hk HH.out.1).2.2.1.trans HH.out.2;obtain rfl:uS=aa d.2.1:=(hk HH.out.1).1;have HX:=zz ((hw.out.after hb).new p' o' (aa d.2.1) A9 n9 c9 ex false);have y5:=HX.out.b9.cell 5 rfl;have y2:=HX.out.b9.cell 2 rfl;have z0:=HX.out.w.b5.cell 0 rfl;clear hb hk)
      go_roundw
      case rel=>exact⟨o+1,code,rfl,by go_num,by omega,HS.out,HX.out.w⟩
      case measure=>simp[intOf];omega
     ·have e1:((d.1:Int) != 1)=false:=by rw[h1];rfl
      have e2:((aa nm).toList == (aa nm).toList)=true:=beq_self_eq_true _
      have HH:=zz (zy h1 (zy hal heq))
      rw[heq] at hm
      have CSd:Hid (∀W p' o' A9 c9 c5 A5,Rd W (fun _=>True) A9 (bE (opsL d.2.2.2.2))→Rd W (fun _=>True) A5 (bE lc)→Calls Tryz.prog 22 #[.agg #[.int .i64 p',.int .u8 o',.string (aa nm),.slice A9 (opsL d.2.2.2.2).length c9,.string (aa d.2.2.1),.bool false],.agg #[.string (aa nm),.slice A5 n5 c5]] W fun e w'=>e= .returned (.bool (bB (aa nm) lc d))∧Below W.heap.size W w'):=fun W p' o' A9 c9 c5 A5 r r'=>by
       rw[hm]
       exact CS.out W p' o' (aa nm) (aa d.2.2.1) false A9 A5 (opsL d.2.2.2.2) _ c9 c5 rfl HL3.out r r'
      have CTd:Hid (∀W p' o' A9 c9,bB (aa nm) lc d=true→Rd W (fun _=>True) A9 (bE (opsL d.2.2.2.2))→Below w.heap.size w W→Calls Tryz.prog 23 #[.agg #[.int .i64 p',.int .u8 o',.string (aa nm),.slice A9 (opsL d.2.2.2.2).length c9,.string (aa d.2.2.1),.bool false],.agg #[.string (aa nm),.slice A n c]] W fun e w'=>e= .returned (.bool (fZ (aa nm) lc d))∧Below W.heap.size W w'):=fun W p' o' A9 c9 hmt r hb=>by
       have h2:=CT.out W p' o' d.2.2.1 false A9 (opsL d.2.2.2.2) (aa nm) _ c9 HEX.out rfl HL3.out r hb
       rw[← hm,hmt,Bool.true_and,← anC (aa nm) lc d hmt] at h2
       exact h2
      have Xg:Hid (bB (aa nm) lc d=false→lG (aa nm) lc P q (o+1:Int) code):=fun e=>qp hs.out HD.out e
      have HS2:Hid (bB (aa nm) lc d=true→fZ (aa nm) lc d=false→lG (aa nm) lc P q (o+1:Int) 2):=fun e e'=>Te hs.out HD.out (by omega) hlo e e'
      have HSf:Hid (fZ (aa nm) lc d=true→tY (aa nm) lc P Q 0):=fun e=>Vj (by omega) (by omega) hlo HD.out e
      clear hm h1 hal CS CT hs
      obtain⟨mb,hmb⟩:∃mb,bB (aa nm) lc d=mb:=⟨_,rfl⟩
      obtain⟨fb,kU⟩:∃fb,fZ (aa nm) lc d=fb:=⟨_,rfl⟩
      rw[hmb] at CSd CTd Xg HS2
      rw[kU] at CTd HS2 HSf
      clear hmb kU
      obtain⟨kd,hkd⟩:∃kd:Int,(d.1:Int)=kd:=⟨_,rfl⟩
      rw[hkd] at HC e1
      clear hkd
      cases mb
      ·have HS:=zz (Xg.out rfl)
       clear CTd HS2 HSf Xg
       go_wp2_with (first
        |(go_at_call 22;refine (CSd.out _ _ _ _ _ _ _ HR.out HX.out.w.r5).mono ?_;rintro e w6 ⟨rfl,hb⟩;have ze:=zz (HX.out.after hb);clear hb)
        |(go_at_call 21;refine HC.out.mono ?_;rintro e w5 ⟨p',o',uS,ex,al,A9,n9,c9,rfl,hk,hb⟩;obtain⟨hk1,rfl,hk3,rfl,hr⟩:=hk HH.out.1;obtain rfl:al=false:=hk3.trans HH.out.2.1;obtain rfl:uS=aa nm:=hk1.trans HH.out.2.2;have HX:=zz ((hw.out.after hb).new p' o' (aa nm) A9 (opsL d.2.2.2.2).length c9 (aa d.2.2.1) false);have HR:=zz (hr.after ((zo w5.heap.size w5).alloc (zu _) (.cells #[.int .i64 p',.int .u8 o',.string (aa nm),.slice A9 (opsL d.2.2.2.2).length c9,.string (aa d.2.2.1),.bool false] 31)));have y0:=HX.out.b9.cell 0 rfl;have y1:=HX.out.b9.cell 1 rfl;have y2:=HX.out.b9.cell 2 rfl;have y3:=HX.out.b9.cell 3 rfl;have y4:=HX.out.b9.cell 4 rfl;have y5:=HX.out.b9.cell 5 rfl;have z0:=HX.out.w.b5.cell 0 rfl;have z1:=HX.out.w.b5.cell 1 rfl;clear hb hk hk1 hk3 hr))
       go_roundw
       case rel=>exact⟨o+1,code,rfl,by go_num,by omega,HS.out,ze.out.w⟩
       case measure=>simp[intOf];omega
      ·have CTe:=zz (fun W p' o' A9 c9=>CTd.out W p' o' A9 c9 rfl)
       clear CTd Xg
       cases fb
       ·have HS:=zz (HS2.out rfl rfl)
        clear HS2 HSf
        go_wp2_with (first
         |(go_at_call 23;refine (CTe.out _ _ _ _ _ HR6.out ze.out.w.bl).mono ?_;rintro e w7 ⟨rfl,hb⟩;have zi:=zz (ze.out.after hb);clear hb)
         |(go_at_call 22;refine (CSd.out _ _ _ _ _ _ _ HR.out HX.out.w.r5).mono ?_;rintro e w6 ⟨rfl,hb⟩;have ze:=zz (HX.out.after hb);have HR6:=zz (HR.out.after hb);have u0:=ze.out.b9.cell 0 rfl;have u1:=ze.out.b9.cell 1 rfl;have u2:=ze.out.b9.cell 2 rfl;have u3:=ze.out.b9.cell 3 rfl;have u4:=ze.out.b9.cell 4 rfl;have u5:=ze.out.b9.cell 5 rfl;have i0:=ze.out.w.b0.cell 0 rfl;have i1:=ze.out.w.b0.cell 1 rfl;clear hb)
         |(go_at_call 21;refine HC.out.mono ?_;rintro e w5 ⟨p',o',uS,ex,al,A9,n9,c9,rfl,hk,hb⟩;obtain⟨hk1,rfl,hk3,rfl,hr⟩:=hk HH.out.1;obtain rfl:al=false:=hk3.trans HH.out.2.1;obtain rfl:uS=aa nm:=hk1.trans HH.out.2.2;have HX:=zz ((hw.out.after hb).new p' o' (aa nm) A9 (opsL d.2.2.2.2).length c9 (aa d.2.2.1) false);have HR:=zz (hr.after ((zo w5.heap.size w5).alloc (zu _) (.cells #[.int .i64 p',.int .u8 o',.string (aa nm),.slice A9 (opsL d.2.2.2.2).length c9,.string (aa d.2.2.1),.bool false] 31)));have y0:=HX.out.b9.cell 0 rfl;have y1:=HX.out.b9.cell 1 rfl;have y2:=HX.out.b9.cell 2 rfl;have y3:=HX.out.b9.cell 3 rfl;have y4:=HX.out.b9.cell 4 rfl;have y5:=HX.out.b9.cell 5 rfl;have z0:=HX.out.w.b5.cell 0 rfl;have z1:=HX.out.w.b5.cell 1 rfl;clear hb hk hk1 hk3 hr))
        go_roundw
        case rel=>exact⟨o+1,2,rfl,by go_num,by omega,HS.out,zi.out.w⟩
        case measure=>simp[intOf];omega
       ·have HS:=zz (HSf.out rfl)
        clear HS2 HSf
        go_wp2_with (first
         |(go_at_call 23;refine (CTe.out _ _ _ _ _ HR6.out ze.out.w.bl).mono ?_;rintro e w7 ⟨rfl,hb⟩;have zi:=zz (ze.out.after hb);have v0:=zi.out.b9.cell 0 rfl;have v1:=zi.out.b9.cell 1 rfl;have v2:=zi.out.b9.cell 2 rfl;have v3:=zi.out.b9.cell 3 rfl;have v4:=zi.out.b9.cell 4 rfl;have v5:=zi.out.b9.cell 5 rfl;have r0:=zi.out.w.b1.cell 0 rfl;have r1:=zi.out.w.b1.cell 1 rfl;have r2:=zi.out.w.b1.cell 2 rfl;have r3:=zi.out.w.b1.cell 3 rfl;have r4:=zi.out.w.b1.cell 4 rfl;have r5:=zi.out.w.b1.cell 5 rfl;have f0:=zi.out.w.b1.frozen 0;have f1:=zi.out.w.b1.frozen 1;have f2:=zi.out.w.b1.frozen 2;have f3:=zi.out.w.b1.frozen 3;have f4:=zi.out.w.b1.frozen 4;have f5:=zi.out.w.b1.frozen 5;clear hb)
         |(go_at_call 22;refine (CSd.out _ _ _ _ _ _ _ HR.out HX.out.w.r5).mono ?_;rintro e w6 ⟨rfl,hb⟩;have ze:=zz (HX.out.after hb);have HR6:=zz (HR.out.after hb);have u0:=ze.out.b9.cell 0 rfl;have u1:=ze.out.b9.cell 1 rfl;have u2:=ze.out.b9.cell 2 rfl;have u3:=ze.out.b9.cell 3 rfl;have u4:=ze.out.b9.cell 4 rfl;have u5:=ze.out.b9.cell 5 rfl;have i0:=ze.out.w.b0.cell 0 rfl;have i1:=ze.out.w.b0.cell 1 rfl;clear hb)
         |(go_at_call 21;refine HC.out.mono ?_;rintro e w5 ⟨p',o',uS,ex,al,A9,n9,c9,rfl,hk,hb⟩;obtain⟨hk1,rfl,hk3,rfl,hr⟩:=hk HH.out.1;obtain rfl:al=false:=hk3.trans HH.out.2.1;obtain rfl:uS=aa nm:=hk1.trans HH.out.2.2;have HX:=zz ((hw.out.after hb).new p' o' (aa nm) A9 (opsL d.2.2.2.2).length c9 (aa d.2.2.1) false);have HR:=zz (hr.after ((zo w5.heap.size w5).alloc (zu _) (.cells #[.int .i64 p',.int .u8 o',.string (aa nm),.slice A9 (opsL d.2.2.2.2).length c9,.string (aa d.2.2.1),.bool false] 31)));have y0:=HX.out.b9.cell 0 rfl;have y1:=HX.out.b9.cell 1 rfl;have y2:=HX.out.b9.cell 2 rfl;have y3:=HX.out.b9.cell 3 rfl;have y4:=HX.out.b9.cell 4 rfl;have y5:=HX.out.b9.cell 5 rfl;have z0:=HX.out.w.b5.cell 0 rfl;have z1:=HX.out.w.b5.cell 1 rfl;clear hb hk hk1 hk3 hr))
        have kk:=(((((zi.out.w.b1.set 0 (.int .i64 p')).set 1 (.int .u8 o')).set 2 (.string (aa nm))).set 3 (.slice A9 (opsL d.2.2.2.2).length c9)).set 4 (.string (aa d.2.2.1))).set 5 (.bool false)
        have k0:=kk.cell 0 rfl
        have k1:=kk.cell 1 rfl
        have k2:=kk.cell 2 rfl
        have k3:=kk.cell 3 rfl
        have k4:=kk.cell 4 rfl
        have k5:=kk.cell 5 rfl
        have hle:w.heap.size≤w.heap.size+1:=by omega
        refine bodyPost_ret (v:=.tuple #[.agg #[.int .i64 p',.int .u8 o',.string (aa nm),.slice A9 (opsL d.2.2.2.2).length c9,.string (aa d.2.2.1),.bool false],.int .i64 0]) (by simp[results,Tryz.results6,go_sem,k0,k1,k2,k3,k4,k5]) rfl ⟨_,0,rfl,⟨_,_,_,_,_,_,_,_,rfl⟩,HS.out,(((((zi.out.w.bl.setCell hle _).setCell hle _).setCell hle _).setCell hle _).setCell hle _).setCell hle _⟩
    ·have anm:¬(o:Int) < 256:=by omega
     obtain rfl:o=256:=by omega
     have HS:Hid (lG (aa nm) lc P ((q+1:Nat):Int) 0 code):=by
      have:=Lj (Q:=(q:Int)) hs.out
      exact this
     go_wp2
     go_roundw
     case rel=>exact⟨q+1,code,rfl,by go_num,by omega,by omega,HS.out,hw.out⟩
     case measure=>simp[intOf];omega
  ·have hlt':¬(q:Int)≤Q:=by omega
   obtain rfl:q=Q+1:=by omega
   have HS:Hid (tY (aa nm) lc P Q code):=Tf (by have:=hs.out;exact this)
   go_wp2_with (go_at_call 20;refine (CL.out _ _ _ hw.out.r5).mono ?_;rintro e w4 ⟨rfl,hb⟩;have hw4:=zz (hw.out.after hb);have r0:=hw4.out.b1.cell 0 rfl;have r1:=hw4.out.b1.cell 1 rfl;have r2:=hw4.out.b1.cell 2 rfl;have r3:=hw4.out.b1.cell 3 rfl;have r4:=hw4.out.b1.cell 4 rfl;have r5:=hw4.out.b1.cell 5 rfl;have f0:=hw4.out.b1.frozen 0;have f1:=hw4.out.b1.frozen 1;have f2:=hw4.out.b1.frozen 2;have f3:=hw4.out.b1.frozen 3;have f4:=hw4.out.b1.frozen 4;have f5:=hw4.out.b1.frozen 5;clear hb)
   have kk:=(((((hw4.out.b1.set 0 (.int .i64 0)).set 1 (.int .u8 0)).set 2 (.string ⟨#[]⟩)).set 3 (.slice none 0 0)).set 4 (.string ⟨#[]⟩)).set 5 (.bool false)
   have k0:=kk.cell 0 rfl
   have k1:=kk.cell 1 rfl
   have k2:=kk.cell 2 rfl
   have k3:=kk.cell 3 rfl
   have k4:=kk.cell 4 rfl
   have k5:=kk.cell 5 rfl
   have hle:w.heap.size≤w.heap.size+1:=by omega
   refine bodyPost_ret (v:=.tuple #[.agg #[.int .i64 0,.int .u8 0,.string ⟨#[]⟩,.slice none 0 0,.string ⟨#[]⟩,.bool false],.int .i64 code]) (by simp[results,Tryz.results6,go_sem,k0,k1,k2,k3,k4,k5]) rfl ⟨_,code,rfl,⟨_,_,_,_,_,_,_,_,rfl⟩,HS.out,(((((hw4.out.bl.setCell hle _).setCell hle _).setCell hle _).setCell hle _).setCell hle _).setCell hle _⟩
end Go.Proofs.YtceaodnohnekkaaGreatDoor
