/- Parts of the proof of TopLines. -/
import Derived.Test.YtpjjgpjhpobkiaaGreatDoorMX1
set_option maxHeartbeats 0
set_option maxRecDepth 1000000
namespace Go.Proofs.YtpjjgpjhpobkiaaGreatDoor
namespace Ex
open Go.RowKit
abbrev bL:=Nat×List Nat×List Nat×Bool×List Nat
def anT (op i:Nat):Nat:=op / 2 ^ (7 - i) % 2
def agH:List Nat→Nat→Nat→Bool
 |c::l,op,f+1=>cond (Nat.beq c (49 - anT op (7 - f))) false (agH l op f)
 |_,_,_=>true
def aaq (c op:Nat):List Nat→Nat→Nat→Nat
 |x::l,i,n=>aaq c op l (i+1) (cond (Nat.beq x c) (2 * n+anT op i) n)
 |[],_,n=>n
def anV (op:Nat)(r:List Nat):List Nat→Fu×List Nat
 |[40,110,41]=>((7,0,0),[110])
 |[40,119,41]=>((7,0,0),[119])
 |[c]=>let n:=aaq c op r 0 0
  match c with
  |112=>((3,n,0),[])
  |113=>((3,cond (Nat.beq n 3) 4 n,0),[])
  |99=>((8,n,0),[])
  |107=>((8,n,0),[])
  |98=>((6,0,n),[])
  |116=>((6,0,8 * n),[])
  |101=>((10,0,0),[c])
  |110=>((6,0,0),[c])
  |119=>((6,0,0),[c])
  |_=>cond (Nat.ble 114 c) (cond (Nat.beq n 6) (4,2,0) (1,n,0),[]) (cond (Nat.blt c 58) ((6,0,c - 48),[]) (Sm [c],[]))
 |s=>(Sm s,[])
def GI (op:Nat):List (List Nat)→Option (List Nat×List Nat×Bool×List Fu)
 |[]=>none
 |r::l=>cond (agH r op 8) (match FD 32 r with
  |b::m::t=>let a:=match t with
    |x::_=>cond (Nat.beq (x.headD 0) 42) [] (FD 44 x)
    |[]=>[]
   some (m,(a.map fun s=>(anV op b s).2).flatten,Nat.beq ((t.getLastD []).headD 0) 42,a.map fun s=>(anV op b s).1)
  |_=>none) (GI op l)
def flat3 (l:List Fu):List Nat:=(l.map fun x=>[x.1,x.2.1,x.2.2]).flatten
def eqO (a b:Fu):Bool:=Nat.beq a.1 b.1 && Nat.beq a.2.1 b.2.1
def aix (k:Nat):List Fu→Option (List Fu)
 |[]=>none
 |x::l=>cond (eqO x (4,2,0)) (some ((5,k,0)::l)) ((aix k l).map (x:: ·))
def amD (k:Nat)(x:Fu):Fu:=cond (eqO x (4,2,0) || eqO x (3,2,0)) (x.1,k,0) (cond (eqO x (1,4,0) || eqO x (1,5,0)) (2,2 * k+x.2.1 - 14,0) x)
def noO (k:Nat):bL:=(k,[],[],false,[])
def opO (k:Nat):Option (List Nat×List Nat×Bool×List Fu)→bL
 |some r=>(1,r.1,r.2.1,r.2.2.1,flat3 r.2.2.2)
 |none=>noO k
def ixO (k o:Nat):bL:=cond (Nat.beq o 203) (noO 2) (cond (Nat.beq o 235) (noO 0) (match GI o bY with
 |some r=>match cond (Nat.beq o 233) none (aix k r.2.2.2) with
  |some l=>(1,r.1,100::r.2.1,r.2.2.1,flat3 l)
  |none=>cond ((r.2.2.2.map (amD k)).all fun x=>r.2.2.2.any (eqO x)) (noO 0) (opO 0 (some (r.1,r.2.1,r.2.2.1,r.2.2.2.map (amD k))))
 |none=>noO 0))
def anR (k o:Nat):bL:=match GI (o / 8 * 8+6) lL with
 |some r=>let b:=Nat.beq (r.1.headD 0) 66
  let s:=Nat.beq (o % 8) 6
  (1,r.1,[100],b && !s,flat3 ((aix k r.2.2.2).getD [])++cond (b || s) [] [1,o % 8,0])
 |none=>noO 0
def atF:Nat→Nat→bL
 |0,o=>opO 2 (GI o bY)
 |1,o=>opO 0 (GI o lL)
 |2,o=>opO 3 (GI o jG)
 |3,o=>ixO 5 o
 |4,o=>ixO 6 o
 |p,o=>anR p o
def ap6:{x:List (List (List bL)) // x=(List.range 7).map fun p=>(List.range 16).map fun c=>(List.range 16).map fun i=>atF p (16 * c+i)}:=⟨_,by conv=>rhs;reduce⟩
def DF:List (List (List bL)):=ap6.1
def ahi {α:Type}(t:List (List (List α)))(p o:Nat):Option α:=match iw t p with
 |some l=>match iw l (Nat.div o 16) with
  |some c=>iw c (Nat.mod o 16)
  |none=>none
 |none=>none
theorem Gl {α:Type}{t:List (List (List α))}{p o:Nat}{d:α}(h:ahi t p o=some d):∃l c,iw t p=some l∧iw l (o / 16)=some c∧iw c (o % 16)=some d:=by
 unfold ahi at h;split at h
 case h_2=>cases h
 case h_1 l hl=>
 split at h
 case h_2=>cases h
 case h_1 c hc=>exact⟨l,c,hl,hc,h⟩
def jd (p o:Nat):Option bL:=ahi DF p o
def opG (p o:Nat)(d:bL)(sl:AV):AV:=match d.1 with
 |1=>.agg [.int .i64 (.ofNat p),.int .u8 (.ofNat o),.str d.2.1,sl,.str d.2.2.1,.bool d.2.2.2.1]
 |_=>.agg [.int .i64 (.ofNat 0),.int .u8 (.ofNat 0),.str [],sl,.str [],.bool false]
def opC (l:List Nat):List AV:=l.map fun n=>.int .i64 (.ofNat n)
def opS (x:Nat):List Nat→AV
 |[]=>.bT
 |l=>.slice x 0 0 (Nat.div l.length 3) none
def opB (x:Nat):List Nat→List (Nat×aF)
 |[]=>[]
 |l=>[(x,.cells (opC l) 174 (some 3))]
def opV (p o:Nat)(d:bL)(sl:AV):AV:=.tuple [opG p o d sl,.int .i64 (.ofNat d.1)]
def opR (p o:Nat)(d:bL):AV×Nat×List (Nat×aF):=(opV p o d (opS 0 d.2.2.2.2),1,opB 0 d.2.2.2.2)
def ags (p o:Nat):List AV:=[.int .i64 (.ofNat p),.int .u8 (.ofNat o)]
def atB (call:aj)(g p o:Nat)(d:bL):Bool:=abf 0 (opR p o d).1 1 (opR p o d).2.2 (call g (ags p o) ⟨0,[],[],bE⟩)
def aa6 (B:Nat→bL→Bool):Nat→List bL→Bool
 |o,d::l=>cond (B o d) (aa6 B (o+1) l) false
 |_,[]=>true
theorem Oi {B:Nat→bL→Bool}:∀{ds:List bL} {o k:Nat} {d:bL},aa6 B o ds=true→iw ds k=some d→B (o+k) d=true
 |[],_,_,_,_,hd=>by cases hd
 |e::l,o,k,d,h,hd=>by
  unfold aa6 at h
  cases h1:B o e with
  |false=>rw[h1] at h;cases h
  |true=>
  rw[h1] at h
  cases k with
  |zero=>
   obtain rfl:=zq hd;exact h1
  |succ k=>
   rw[show o+(k+1)=o+1+k by omega]
   exact Oi (show aa6 B (o+1) l=true from h) hd
def KA (B:Nat→bL→Bool)(p c:Nat):Bool:=aa6 B (16 * c) (match iw DF p with
 |some l=>match iw l c with
  |some x=>x
  |none=>[]
 |none=>[])
theorem qy {α:Type}{l:List α}{n:Nat}{x:α}(h:iw l n=some x):n < l.length∧x∈l:=by
 rw[JI] at h;exact⟨(zf.1 h).1,zD h⟩
theorem adL:(Nat.beq DF.length 7 && DF.all fun l=>Nat.beq l.length 16)=true:=by kernel_rfl
theorem uN {B:Nat→Nat→bL→Bool}(h:∀p,p < 7→eX (KA (B p) p) 16){p o:Nat}{d:bL}(hd:jd p o=some d):B p o d=true:=by
 obtain⟨l,c,h1,h2,h3⟩:=Gl hd;have hl:=Bool.and_eq_true_iff.1 adL;have p7:=(qy h1).1;rw[(beq_iff _ _).1 hl.1] at p7;have c16:=(qy h2).1;rw[(beq_iff _ _).1 (zY.1 hl.2 _ (qy h1).2)] at c16;have k:=(h p p7).at c16;unfold KA at k;rw[h1] at k;dsimp only at k;rw[h2] at k;have k:=Oi k h3;rwa [show 16 * (o / 16)+o % 16=o by omega] at k
theorem Yr {P:Nat→Prop}(h:P 0∧P 1∧P 2∧P 3∧P 4∧P 5∧P 6):∀p,p < 7→P p
 |0,_=>h.1
 |1,_=>h.2.1
 |2,_=>h.2.2.1
 |3,_=>h.2.2.2.1
 |4,_=>h.2.2.2.2.1
 |5,_=>h.2.2.2.2.2.1
 |6,_=>h.2.2.2.2.2.2
 |n+7,hn=>by omega
def Lj:List AV→Option (AV×Nat×List (Nat×aF))
 |[.int .i64 (.ofNat p),.int .u8 (.ofNat o)]=>match jd p o with
  |some d=>some (opR p o d)
  |none=>none
 |_=>none
theorem ah7 {P:Program}{call:aj}(hC:ai P call){g:Nat}(h:∀p,p < 7→eX (KA (atB call g p) p) 16):ai P (eH bE g (afi bE Lj)):=afh bE _ _ fun args r hm=>by
 unfold Lj at hm;split at hm
 case h_2=>cases hm
 case h_1 p o=>
 split at hm
 case h_2=>cases hm
 case h_1 d hd=>
 obtain rfl:=zq hm;exact qI hC rfl (uN h hd)
end Ex
section
open Go.RowKit
theorem iU:El Tryz.prog 22 5 (.int .u8 0) 1 1:=⟨Tryz.underlying22,zz,rfl,zx⟩
theorem Yt {w2:World}{B:Nat}{v:Value}{d:List UInt8}{k:Nat}{y:UInt8}{z:Int}(h:w2.ownsRow B 5 1 v (k+1) (bs d++[.int .u8 z]))(hz:z=(y.toNat:Int)):w2.ownsRow B 5 1 v (k+1) (bs (d++[y])):=by
 rw[Iw,← show [Value.int .u8 z]=bs [y] from by rw[hz];rfl]
 exact h
def ils (zs:List Int):List Value:=zs.map (Value.int .i64)
theorem Rd.agt {w:World}{p:Nat→Prop}{A:Option Addr}{zs:List Int}(h:Rd w p A (ils zs)){k:Nat}(hk:k < zs.length):
 ∃b o z,A=some ⟨b,o,none⟩∧w.cell? ⟨b,o+k,none⟩=some (.int .i64 z)∧zs[k]? =some z:=by
 have hx:k < (ils zs).length:=by simp[ils];exact hk
 obtain⟨b,o,h1,_,h3⟩:=h.ex (fun e=>by rw[e] at hx;simp at hx)
 exact⟨b,o,zs[k],h1,h3 k _ (by simp[ils,hk]),zg hk⟩
def JP (z:Int):UInt8:=UInt8.ofNat (z % 256).toNat
theorem M6 (z:Int):((JP z).toNat:Int)=z % 256:=by
 unfold JP;rw[wF];omega
theorem Zd {zs:List Int}{k:Nat}{z:Int}(h:zs[k]? =some z):(zs.take (k+1)).map JP=(zs.take k).map JP++[JP z]:=by
 rw[take_at h,yu];rfl
theorem ad3 (A:Option Addr)(zs:List Int)(c:Nat)(w:World)(p:Nat→Prop)(hm:(zs.length:Int)≤140737488355328)(h:Rd w p A (ils zs)):
 Calls Tryz.prog 203 #[.slice A zs.length c] w fun e w'=>∃v,e= .returned v∧w'.ownsRow w.heap.size 5 1 v zs.length (bs (zs.map JP))∧Below w.heap.size w w':=by
 have HR:=zo h;obtain⟨n,hn⟩:∃n,zs.length=n:=⟨_,rfl⟩;rw[hn] at hm;rw[hn];have HN:=zo hn;clear h hn;go_enter Tryz.func203,Tryz.ntmps203;go_wp2
 go_loopw [3,8] (fun u v W=>∃k:Nat,(k:Int)≤n∧v= .int .i64 k∧Hid (W.ownsRow w.heap.size 5 1 u k (bs ((zs.take k).map JP)))∧Hid (Below w.heap.size w W)) (fun _ v _=>n - (intOf v).toNat)
 case atStart=>exact⟨0,zy,rfl,yx _ _ _ _,zh _ _⟩
 case round=>
  obtain⟨k,hk,rfl,hO,hQ⟩:=hrel;obtain⟨A3,c3,rfl,_⟩:=bg hO.out;by_cases hlt:k < n
  ·obtain⟨b,o,z,rfl,hc0,hz⟩:=HR.agt (k:=k) (by rw[HN.out];exact hlt)
   have hc:=(hQ.cell (p:=⟨b,o+k,none⟩) (lt_of_cell hc0)).trans hc0;have HZ:=zo hz;clear hz hc0
   go_wp2_with (at_builtin;refine bu iU rfl (.tmp 12) (.tmp 15) rfl w.heap.size _ k _ (fun _=>True) _ 1 1 [.int .u8 _] rfl rfl (hO.alloc _) rfl (Rd.new _ _ _ trivial) (by intro u hu;simp at hu;subst hu;rfl) (by simp only[maxLen];omega) zy (by simp;have:=hQ.size;omega) ?_;intro v2 w2 hown2 hg2 NB hz2;have HO:=zo hown2;have HB:=zo ((hQ.alloc hQ.size _).grown hg2 (by simp;have:=hQ.size;omega) (fun q hq=>(hO.lt q hq).1));clear hown2 hg2 NB hz2)
   go_roundw
   case rel=>exact⟨k+1,zy,by go_num,by rw[Zd HZ.out];exact Yt HO.out (M6 z).symm,HB.out⟩
   case measure=>simp[intOf];omega
  ·obtain rfl:k=n:=zy
   have HE:Hid (wr.ownsRow w.heap.size 5 1 (.slice A3 k c3) k (bs (zs.map JP))):=by
    have:=hO.out;rw[yn (by rw[HN.out];omega)] at this
    exact this
   go_wp2;go_ret;exact⟨_,rfl,HE.out,hQ.out⟩
def iy (lo hi:Int)(zs:List Int):Bool:=zs.all fun n=>decide (lo≤n) && decide (n≤hi)
theorem YR {lo hi:Int}{zs:List Int}{k:Nat}{z:Int}(h:iy lo hi zs=true)(hz:zs[k]? =some z):lo≤z∧z≤hi:=by
 unfold iy at h;rw[zY] at h
 simpa using h z (zD hz)
theorem MW {lo hi:Int}{zs:List Int}{k:Nat}{z:Int}(hz:zs[k]? =some z)(h:¬(lo≤z∧z≤hi)):iy lo hi zs=false:=by
 cases hf:iy lo hi zs
 ·rfl
 ·exact absurd (YR hf hz) h
theorem Qc {lo hi:Int}{zs:List Int}{k:Nat}{z:Int}(h:iy lo hi (zs.take k)=true)(hz:zs[k]? =some z)(h2:lo≤z∧z≤hi):iy lo hi (zs.take (k+1))=true:=by
 rw[take_at hz];unfold iy at *;rw[List.all_append,h]
 simpa using h2
theorem Al (lo hi:Int)(A:Option Addr)(zs:List Int)(c:Nat)(w:World)(p:Nat→Prop)(hm:(zs.length:Int)≤140737488355328)(h:Rd w p A (ils zs)):
 Calls Tryz.prog 96 #[.int .i64 lo,.int .i64 hi,.slice A zs.length c] w fun e w'=>e= .returned (.bool (iy lo hi zs))∧w=w':=by
 have HR:=zo h;obtain⟨n,hn⟩:∃n,zs.length=n:=⟨_,rfl⟩;rw[hn] at hm;rw[hn];have HN:=zo hn;clear h hn;go_enter Tryz.func96,Tryz.ntmps96;go_wp2
 go_loop [11] (fun v=>∃k:Nat,(k:Int)≤n∧v= .int .i64 k∧Hid (iy lo hi (zs.take k)=true)) (fun v=>n - (intOf v).toNat)
 case atStart=>exact⟨0,zy,rfl,rfl⟩
 case round=>
  obtain⟨k,hk,rfl,hF⟩:=hrel;by_cases hlt:k < n
  ·obtain⟨b,o,z,rfl,hc,hz⟩:=HR.agt (k:=k) (by rw[HN.out];exact hlt)
   have HZ:=zo hz;clear hz;rcases Int.lt_or_le z lo with h1|h1
   ·have HE:=zo (MW HZ.out (lo:=lo) (hi:=hi) zy);go_wp2;go_ret;exact⟨dz HE.symm,rfl⟩
   ·rcases Int.lt_or_le hi z with h2|h2
    ·have HE:=zo (MW HZ.out (lo:=lo) (hi:=hi) zy);go_wp2;go_ret;exact⟨dz HE.symm,rfl⟩
    ·go_wp2
     go_round
     case rel=>exact⟨k+1,zy,by go_num,Qc hF.out HZ.out ⟨h1,h2⟩⟩
     case measure=>simp[intOf];omega
  ·have HE:Hid (iy lo hi zs=true):=by
    have:=hF.out;rw[yn (by rw[HN.out];omega)] at this
    exact this
   go_wp2;go_ret;exact⟨dz HE.symm,rfl⟩
end
namespace Ex
open Go.RowKit
def eT (w:World):Prop:=∀g l,au g bE=some l→∀(j:Nat) (v:Value),l[j]? =some v→w.cell? ⟨g,j,none⟩=some v
theorem eT.after {w w':World}(h:eT w)(hb:Below w.heap.size w w'):eT w':=fun g l hg j v hj=>by
 have hc:=h g l hg j v hj;have hlt:=lt_of_cell hc;rw[yz (w:=w) (hb.block _ hlt)];exact hc
theorem CY {w:World}(h:eT w)(ρ:Env):aJ w ρ ⟨0,[],[],bE⟩ w:=⟨zh _ _,fun b k hb=>(by cases hb),fun b b' k k' hb=>(by cases hb),fun b k hb=>(by cases hb),xW,h⟩
def iY:Env:=⟨fun _=>0,fun _=>0,fun _=>(⟨0,0,none⟩,0)⟩
theorem Post.fZ {w0:World}{ρ ρ':Env}{W W':AW}{w w':World}(h:Post w0 ρ W w ρ' W' w')(hm:W'.az=[]):Below w.heap.size w w':=
 h.gr.below (zn _) fun i ⟨b,hb,_⟩=>by rw[hm] at hb;cases hb
def gF (B:Nat)(w:World)(A:Option Addr)(c:Nat)(vs:List Value):Prop:=
 (vs=[]∧A=none∧c=0)∨(vs≠[]∧∃q n cur,A=some ⟨q,0,none⟩∧B≤q∧w.heap[q]? =some (.cells cur 174 (0,0))∧n≤c∧c≤maxLen∧cur.size=c * 3∧vs.length=n * 3∧cur.toList.take (n * 3)=vs)
theorem lt_of_heap {w:World}{q:Nat}{b:Obj}(h:w.heap[q]? =some b):q < w.heap.size:=(zT.1 h).1
theorem gF.after {B:Nat}{w w':World}{A:Option Addr}{c:Nat}{vs:List Value}(h:gF B w A c vs)(hb:Below w.heap.size w w'):gF B w' A c vs:=by
 rcases h with h|⟨h0,q,n,cur,rfl,hB,hh,h'⟩
 ·exact .inl h
 ·exact .inr ⟨h0,q,n,cur,rfl,hB,(hb.block q (lt_of_heap hh)).trans hh,h'⟩
theorem gF.mono {B B':Nat}{w:World}{A:Option Addr}{c:Nat}{vs:List Value}(h:gF B w A c vs)(hB:B'≤B):gF B' w A c vs:=by
 rcases h with h|⟨h0,q,n,cur,rfl,hB',h'⟩
 ·exact .inl h
 ·exact .inr ⟨h0,q,n,cur,rfl,zy,h'⟩
theorem gF.rd {B:Nat}{w:World}{A:Option Addr}{c:Nat}{vs:List Value}(h:gF B w A c vs):Rd w (fun _=>True) A vs:=by
 rcases h with⟨rfl,_⟩|⟨_,q,n,cur,rfl,_,hh,_,_,_,hl,ht⟩
 ·exact Rd.nil _ _ _
 ·refine fun _=>⟨_,rfl,trivial,fun j u hu=>?_⟩
  have e:(⟨q,0,none⟩:Addr).add j=⟨q,j,none⟩:=by
   unfold Addr.add;split
   ·rename_i h;subst h;rfl
   ·simp
  rw[e];simp only[World.cell?,hh];have hj:j < vs.length:=(zf.1 hu).1;rw[← ht,yj,zW zy] at hu
  simpa using hu
def lN (d:bL):List Value:=d.2.2.2.2.map fun (n:Nat)=>Value.int .i64 (n:Int)
def enV (p o:Nat)(d:bL)(A:Option Addr)(c:Nat):Value:=.agg #[.int .i64 (p:Int),.int .u8 (o:Int),.string (ag d.2.1),.slice A (d.2.2.2.2.length / 3) c,.string (ag d.2.2.1),.bool d.2.2.2.1]
theorem JD (ρ:Env):∀l:List Nat,aH ρ (opC l)=l.map fun (n:Nat)=>Value.int .i64 (n:Int)
 |[]=>rfl
 |n::l=>by
  show cv ρ (.int .i64 (.ofNat n))::aH ρ (opC l)=_;rw[JD ρ l];rfl
theorem ac2 {call:aj}(hC:ai Tryz.prog call){g p o:Nat}{d:bL}(h:atB call g p o d=true)(hk:d.1=1)(w:World)(hG:eT w):
 Calls Tryz.prog g #[.int .i64 (p:Int),.int .u8 (o:Int)] w fun e w'=>∃A c,e= .returned (.tuple #[enV p o d A c,.int .i64 1])∧gF w.heap.size w' A c (lN d)∧Below w.heap.size w w':=by
 have hc:=(qI (r:=opR p o d) hC (g:=g) (args:=ags p o) rfl h).2.2 w iY w (CY hG _);refine wW (show Calls Tryz.prog g #[.int .i64 (p:Int),.int .u8 (o:Int)] w _ from hc) ?_
 rintro e w' ⟨ρ',rfl,hP,_⟩;have hb:=hP.fZ rfl;obtain⟨k,nm,ex,al,cs⟩:=d;obtain rfl:k=1:=hk
 cases cs with
 |nil=>exact⟨none,0,by simp only[enV,List.length_nil,Nat.zero_div];rfl,.inl ⟨rfl,rfl,rfl⟩,hb⟩
 |cons a t=>
  have hrep:=hP.rep.rep 0 (.cells (opC (a::t)) 174 (some 3)) (aA _ _ _);have hok:=hP.rep.ok 0 (.cells (opC (a::t)) 174 (some 3)) (aA _ _ _);obtain⟨n,cur,h1,h2,h3,h4,h5,h6⟩:=hrep;refine⟨some ⟨ρ'.blk 0,0,none⟩,ρ'.cap 0 - 0,rfl,.inr ⟨by simp[lN],ρ'.blk 0,n,cur,rfl,hok.2.2.1,h1,h2,h3,h4,?_,?_⟩,hb⟩
  ·rw[← h5];simp[lN,opC]
  ·rw[h6,JD];rfl
theorem Ur {call:aj}(hC:ai Tryz.prog call){g p o:Nat}{d:bL}(h:atB call g p o d=true)(w:World)(hG:eT w):
 Calls Tryz.prog g #[.int .i64 (p:Int),.int .u8 (o:Int)] w fun e w'=>∃(p' o':Int) (nm ex:ByteArray) (al:Bool) (A:Option Addr) (n c:Nat),e= .returned (.tuple #[.agg #[.int .i64 p',.int .u8 o',.string nm,.slice A n c,.string ex,.bool al],.int .i64 (d.1:Int)])∧Below w.heap.size w w':=by
 have hc:=(qI (r:=opR p o d) hC (g:=g) (args:=ags p o) rfl h).2.2 w iY w (CY hG _);refine wW (show Calls Tryz.prog g #[.int .i64 (p:Int),.int .u8 (o:Int)] w _ from hc) ?_
 rintro e w' ⟨ρ',rfl,hP,_⟩;have hb:=hP.fZ rfl;obtain⟨k,nm,ex,al,cs⟩:=d
 have hs:∃A n c,cv ρ' (opS 0 cs)= .slice A n c:=by
  cases cs with
  |nil=>exact⟨_,_,_,rfl⟩
  |cons a t=>exact⟨_,_,_,rfl⟩
 obtain⟨A,n,c,hs⟩:=hs
 have hg:∃(p' o':Int) (FR Kh:ByteArray) (al':Bool),cv ρ' (opG p o (k,nm,ex,al,cs) (opS 0 cs))= .agg #[.int .i64 p',.int .u8 o',.string FR,.slice A n c,.string Kh,.bool al']:=by
  unfold opG;split
  ·exact⟨_,_,_,_,_,by simp only[cv,aH,hs];rfl⟩
  ·exact⟨_,_,_,_,_,by simp only[cv,aH,hs];rfl⟩
 obtain⟨p',o',FR,Kh,al',hg⟩:=hg;refine⟨p',o',FR,Kh,al',A,n,c,?_,hb⟩;show Ending.returned (.tuple #[cv ρ' (opG p o (k,nm,ex,al,cs) (opS 0 cs)),_])=_;rw[hg];rfl
def Nu:List AV→Option (List Int)
 |[]=>some []
 | .sym _ z::r=>(Nu r).map (z:: ·)
 | .int .i64 z::r=>(Nu r).map (z:: ·)
 |_::_=>none
theorem rR {ρ:Env}:∀{vs:List AV} {zs:List Int},Nu vs=some zs→aH ρ vs=ils zs∧zs.length=vs.length
 |[],zs,h=>by
  obtain rfl:=zq h;exact⟨rfl,rfl⟩
 |v::r,zs,h=>by
  unfold Nu at h;split at h
  ·rename_i e;cases e
  ·rename_i z r' e;obtain⟨rfl,rfl⟩:=yP e;obtain⟨m,hm,rfl⟩:=zi.1 h;obtain⟨h1,h2⟩:=rR (ρ:=ρ) hm;exact⟨by simp only[aH,cv,ils,List.map_cons] at h1 ⊢;rw[h1],by simp[h2]⟩
  ·rename_i z r' e;obtain⟨rfl,rfl⟩:=yP e;obtain⟨m,hm,rfl⟩:=zi.1 h;obtain⟨h1,h2⟩:=rR (ρ:=ρ) hm;exact⟨by simp only[aH,cv,ils,List.map_cons] at h1 ⊢;rw[h1],by simp[h2]⟩
  ·cases h
def M5:List Int→List AV
 |[]=>[]
 |z::r=>.int .u8 (z % 256)::M5 r
theorem Ho (ρ:Env):∀zs:List Int,aH ρ (M5 zs)=bs (zs.map JP)∧(M5 zs).length=zs.length
 |[]=>⟨rfl,rfl⟩
 |z::r=>by
  obtain⟨h1,h2⟩:=Ho ρ r;refine⟨?_,by simp[M5,h2]⟩
  rw[M5,aH,h1,cv,← M6 z];rfl
theorem Sy (n:Nat):∀zs:List Int,oks n (M5 zs)
 |[]=>trivial
 |_::r=>⟨trivial,Sy n r⟩
def aiz:aj:=fun g args W=>cond (Nat.beq g 203) (match args with
 |[x]=>match lg W.bl 1 x with
  |some (m,vs)=>match Nu vs with
   |some zs=>cond (Nat.blt 0 m) (cond (Nat.ble m 140737488355328) (some (.slice W.nx 0 0 m none,W.push (.cells (M5 zs) 5 (some 1)))) none) none
   |none=>none
  |none=>none
 |_=>none) none
theorem ad4:ai Tryz.prog aiz:=fun g args W v W' h=>by
 unfold aiz at h
 cases hg:Nat.beq g 203 with
 |false=>rw[hg] at h;cases h
 |true=>
 rw[hg] at h;obtain rfl:=(beq_iff _ _).1 hg;simp only[cond_true] at h;split at h
 case h_2=>cases h
 case h_1 x=>
 split at h
 case h_2=>cases h
 case h_1 m vs hx=>
 split at h
 case h_2=>cases h
 case h_1 zs hzs=>
 cases h1:Nat.blt 0 m with
 |false=>rw[h1] at h;cases h
 |true=>
 cases h2:Nat.ble m 140737488355328 with
 |false=>rw[h1,h2] at h;cases h
 |true=>
 rw[h1,h2] at h;simp only[cond_true] at h;have h1:=aK h1;have h2:=zk h2;obtain⟨rfl,rfl⟩:=zm (zq h);refine⟨⟨_,Tryz.func203,zx,zz⟩,fun _ hb=>hb,fun w0 ρ w _ hW=>?_⟩
 obtain⟨A,c,hxv,hlen,hrd,hno⟩:=jr (fun b k hb=>⟨(hW.ok b k hb).2.1,hW.rep b k hb⟩) hx
 obtain⟨hzv,hzl⟩:=rR (ρ:=ρ) hzs;have hm:zs.length=m:=by rw[hzl,hlen];omega
 rw[hzv] at hrd;have hc:=ad3 A zs c w (fun _=>True) zy hrd
 rw[hm] at hc;have ea:(aH ρ [x]).toArray=#[.slice A m c]:=by simp only[aH,hxv]
 rw[ea];refine hc.mono ?_;rintro e' w' ⟨v,rfl,hown,hb⟩;obtain⟨g,cap,cur,rfl,r1,r2,r3,r4,r5,r6⟩:=tK hown h1
 have hgw:w.heap.size≤g:=by
  rcases hown.2 with⟨_,h0⟩|⟨g',cap',cur',e1,e2,_⟩
  ·omega
  ·injection e1 with e1 _ _
   injection e1 with e1
   injection e1 with e1 _ _
   rw[e1];exact e2
 obtain⟨hl1,hl2⟩:=Ho (ρ.up W.nx g cap) zs;refine⟨ρ.up W.nx g cap,?_,hW.new (g:=g) (c:=cap) (k:=.cells (M5 zs) 5 (some 1)) ⟨hb.os,hb.tape,hb.output,hb.size,fun i hi _=>hb.block i hi⟩ hgw r1 (Sy _ zs) ?_,zS _⟩
 ·simp only[cv,Env.aM,Env.bX,Nat.sub_zero]
 ·refine⟨m,cur,?_,?_,?_,?_,by rw[hl2,hm,vP],?_⟩
  ·rw[Env.aM];exact r2
  ·rw[Env.bX];exact r3
  ·rw[Env.bX];exact r4
  ·rw[Env.bX];exact r5
  ·rw[hl1];exact r6
def I9 (lo hi:Int)(f:Int×Int×Bool)(q:Option Bool):Option Bool:=
 cond f.2.2 (cond (dA f.2.1 lo) (some false) (cond (dA hi f.1) (some false) (cond (dA f.1 lo) q (cond (dA hi f.2.1) q (some true))))) q
theorem Gu {lo hi x:Int}{f:Int×Int×Bool}{l:List (Int×Int×Bool)}{q:Option Bool}{r:Bool}(h:I9 lo hi f q=some r)(hk:kM (f::l) x)(hq:q=some r→iy lo hi [x]=r):iy lo hi [x]=r:=by
 have ne:∀{a b:Int},dA a b=false→¬a < b:=fun h e=>by rw[cZ.2 e] at h;cases h
 unfold I9 at h
 cases hf:f.2.2 with
 |false=>rw[hf] at h;exact hq h
 |true=>
  have hx:=RL hk hf;rw[hf] at h;simp only[cond_true] at h
  cases h1:dA f.2.1 lo with
  |true=>
   rw[h1] at h;obtain rfl:=zq h;have:=cZ.1 h1;simp[iy];omega
  |false=>
  rw[h1] at h
  cases h2:dA hi f.1 with
  |true=>
   rw[h2] at h;obtain rfl:=zq h;have:=cZ.1 h2;simp[iy];omega
  |false=>
  rw[h2] at h
  cases h3:dA f.1 lo with
  |true=>rw[h3] at h;exact hq h
  |false=>
  rw[h3] at h
  cases h4:dA hi f.2.1 with
  |true=>rw[h4] at h;exact hq h
  |false=>
   rw[h4] at h;obtain rfl:=zq h;have n3:=ne h3;have n4:=ne h4;simp[iy];omega
def LV (lo hi:Int):List (Int×Int×Bool)→Option Bool
 |[]=>none
 |f::l=>cond (nJ lo f.1) (cond (nJ hi f.2.1) (some f.2.2) (I9 lo hi f (LV lo hi l))) (I9 lo hi f (LV lo hi l))
theorem Df {lo hi x:Int}:∀{fs:List (Int×Int×Bool)} {r:Bool},LV lo hi fs=some r→kM fs x→iy lo hi [x]=r
 |[],_,h,_=>by cases h
 |f::l,r,h,hk=>by
  have hl:kM l x:=fun g hg=>hk g (ze _ hg)
  unfold LV at h
  cases h1:nJ lo f.1 with
  |false=>rw[h1] at h;exact Gu h hk fun hq=>Df hq hl
  |true=>
   cases h2:nJ hi f.2.1 with
   |false=>rw[h1,h2] at h;exact Gu h hk fun hq=>Df hq hl
   |true=>
    rw[h1,h2] at h;obtain rfl:=zq h;have:=hk _ zb;rw[← this,eY h1,eY h2];simp[iy]
def aai:aj:=fun g args W=>cond (Nat.beq g 96) (match args with
 |[.int .i64 lo,.int .i64 hi,x]=>match lg W.bl 1 x with
  |some (m,[.sym fs _z])=>cond (Nat.beq m 1) ((LV lo hi fs).map fun r=>(.bool r,W)) none
  |_=>none
 |_=>none) none
theorem aah:ai Tryz.prog aai:=fun g args W v W' h=>by
 unfold aai at h
 cases hg:Nat.beq g 96 with
 |false=>rw[hg] at h;cases h
 |true=>
 rw[hg] at h;obtain rfl:=(beq_iff _ _).1 hg;simp only[cond_true] at h;split at h
 case h_2=>cases h
 case h_1 lo hi x=>
 split at h
 case h_2=>cases h
 case h_1 m fs z hx=>
 cases h1:Nat.beq m 1 with
 |false=>rw[h1] at h;cases h
 |true=>
 rw[h1] at h;obtain rfl:=(beq_iff _ _).1 h1;obtain⟨r,hr,h2⟩:=zi.1 h;obtain⟨rfl,rfl⟩:=zm h2;refine⟨⟨_,Tryz.func96,zx,zz⟩,fun _ hb=>hb,fun w0 ρ w _ hW=>?_⟩
 obtain⟨A,c,hxv,hlen,hrd,hno⟩:=jr (fun b k hb=>⟨(hW.ok b k hb).2.1,hW.rep b k hb⟩) hx
 have hc:=Al lo hi A [z] c w (fun _=>True) zw hrd
 have ea:(aH ρ [.int .i64 lo,.int .i64 hi,x]).toArray=#[.int .i64 lo,.int .i64 hi,.slice A 1 c]:=by simp only[aH,cv,hxv]
 rw[ea];refine hc.mono ?_;rintro e' w' ⟨rfl,rfl⟩;exact⟨ρ,by rw[Df hr hno.1];rfl,Post.refl hW,trivial⟩
def an0 (S:aj):aj:=qX aiz (qX aai S)
theorem afC {S:aj}(h:ai Tryz.prog S):ai Tryz.prog (an0 S):=bN ad4 (bN aah h)
def OV:aj:=an0 S1
theorem nR:ai Tryz.prog OV:=afC BO
def TD:List AV→AV
 |[]=>.bT
 |cs=>.slice 0 0 0 (Nat.div cs.length 3) none
def afp:List AV→AW
 |[]=>⟨1,[],[],bE⟩
 |cs=>⟨1,[(0,.cells cs 174 (some 3))],[],bE⟩
def rI (z:Int):AV:=.raw (.int .i64 z)
def Cc:Nat→List Nat→(Nat→Int)→(Nat→Int)→List AV
 |_,[],_,_=>[]
 |i,k::l,rs,ns=>.int .i64 (.ofNat k)::rI (rs i)::rI (ns i)::Cc (i+1) l rs ns
def fG (c:Nat):List Nat→Bool
 |[]=>false
 |x::l=>cond (Nat.beq c x) true (fG c l)
def BU (ex:List Nat):Int×Int:=cond (fG 100 ex) (.negSucc 127,.ofNat 127) (.ofNat 0,.ofNat 0)
def Dp (ex:List Nat):Int×Int:=cond (fG 101 ex) (.negSucc 127,.ofNat 127) (cond (fG 110 ex) (.ofNat 0,.ofNat 255) (cond (fG 119 ex) (.ofNat 0,.ofNat 65535) (.ofNat 0,.ofNat 0)))
def aO:Nat→List Nat
 |1=>[203]
 |2=>[237]
 |3=>[221]
 |4=>[253]
 |5=>[221,203]
 |6=>[253,203]
 |_=>[]
def u8s:List Nat→List AV
 |[]=>[]
 |c::l=>.int .u8 (.ofNat c)::u8s l
theorem Tq:∀(ks:List Nat) (i:Nat) (rs ns:Nat→Int),(Cc i ks rs ns).length=3 * ks.length
 |[],_,_,_=>rfl
 |k::l,i,rs,ns=>by
  simp only[Cc,List.length_cons,Tq l];omega
theorem Tp (m:Nat):∀(ks:List Nat) (i:Nat) (rs ns:Nat→Int),oks m (Cc i ks rs ns)
 |[],_,_,_=>trivial
 |_::l,i,rs,ns=>⟨trivial,trivial,trivial,Tp m l (i+1) rs ns⟩
theorem Tv (ρ ρ':Env):∀(ks:List Nat) (i:Nat) (rs ns:Nat→Int),aH ρ (Cc i ks rs ns)=aH ρ' (Cc i ks rs ns)
 |[],_,_,_=>rfl
 |_::l,i,rs,ns=>by
  simp only[Cc,aH,rI,cv,Tv ρ ρ' l]
theorem RA (ρ:Env):∀l:List Nat,aH ρ (u8s l)=l.map fun (c:Nat)=>Value.int .u8 (c:Int)
 |[]=>rfl
 |c::l=>by
  simp only[u8s,aH,cv,RA ρ l,List.map_cons];rfl
theorem ahG {ρ:Env}{w:World}{b:Nat}{vs:List AV}{e:TypeId}(h:(aF.cells vs e (some 1)).rep ρ w b):Rd w (fun _=>True) (some ⟨ρ.blk b,0,none⟩) (aH ρ vs)∧vs.length≤ρ.cap b:=by
 obtain⟨n,cur,hh,h2,h3,h4,h5,h6⟩:=h;refine⟨fun _=>⟨_,rfl,trivial,fun j u hu=>?_⟩,zy⟩
 have e:(⟨ρ.blk b,0,none⟩:Addr).add j=⟨ρ.blk b,j,none⟩:=by
  unfold Addr.add;split
  ·rename_i h;subst h;rfl
  ·simp
 rw[e];simp only[World.cell?,hh];have hj:j < (aH ρ vs).length:=(zf.1 hu).1;rw[ay] at hj;rw[← h6,yj,zW zy] at hu
 simpa using hu
theorem qJ {call:aj}(hC:ai Tryz.prog call){g:Nat}{args:List AV}{v:AV}{W':AW}(hr:call g args ⟨0,[],[],bE⟩=some (v,W'))(hm:W'.az=[])(hf:oks 0 args)(w:World)(hG:eT w):
 Calls Tryz.prog g (aH iY args).toArray w fun e w'=>∃ρ,e= .returned (cv ρ v)∧(∀b k,au b W'.bl=some k→k.rep ρ w' b∧w.heap.size≤ρ.blk b)∧Below w.heap.size w w':=by
 obtain⟨_,_,q3⟩:=hC _ _ _ _ _ hr;refine wW (q3 w iY w hf (CY hG _)) ?_;rintro e w' ⟨ρ',rfl,hP,_⟩;exact⟨ρ',rfl,fun b k hb=>⟨hP.rep.rep b k hb,(hP.rep.ok b k hb).2.2.1⟩,hP.fZ hm⟩
def Bc:Option (AV×AW)→Option Bool
 |some (.bool b,W)=>match W.az with
  |[]=>some b
  |_=>none
 |_=>none
theorem mV {call:aj}(hC:ai Tryz.prog call){g:Nat}{args:List AV}{b:Bool}(hr:Bc (call g args ⟨0,[],[],bE⟩)=some b)(hf:oks 0 args)(w:World)(hG:eT w):
 Calls Tryz.prog g (aH iY args).toArray w fun e w'=>e= .returned (.bool b)∧Below w.heap.size w w':=by
 unfold Bc at hr;split at hr
 case h_2=>cases hr
 case h_1 b' W hq=>
 split at hr
 case h_2=>cases hr
 case h_1 hm=>
 obtain rfl:=zq hr;refine (qJ hC hq hm hf w hG).mono ?_;rintro e w' ⟨ρ,rfl,_,hb⟩;exact⟨rfl,hb⟩
def Aq:Option (AV×AW)→Option Nat
 |some (.int .i64 (.ofNat b),W)=>match W.az with
  |[]=>some b
  |_=>none
 |_=>none
theorem Oq {call:aj}(hC:ai Tryz.prog call){g:Nat}{args:List AV}{b:Nat}(hr:Aq (call g args ⟨0,[],[],bE⟩)=some b)(hf:oks 0 args)(w:World)(hG:eT w):
 Calls Tryz.prog g (aH iY args).toArray w fun e w'=>e= .returned (.int .i64 (b:Int))∧Below w.heap.size w w':=by
 unfold Aq at hr;split at hr
 case h_2=>cases hr
 case h_1 b' W hq=>
 split at hr
 case h_2=>cases hr
 case h_1 hm=>
 obtain rfl:=zq hr;refine (qJ hC hq hm hf w hG).mono ?_;rintro e w' ⟨ρ,rfl,_,hb⟩;exact⟨rfl,hb⟩
def bq (q:Option Bool)(b:Bool):Bool:=match q with
 |some true=>b
 |some false=>!b
 |none=>false
theorem abh {q:Option Bool}{b:Bool}(h:bq q b=true):q=some b:=by
 unfold bq at h;split at h
 ·rw[h]
 ·cases b
  ·rfl
  ·cases h
 ·cases h
def nq (q:Option Nat)(b:Nat):Bool:=match q with
 |some a=>Nat.beq a b
 |none=>false
theorem YO {q:Option Nat}{b:Nat}(h:nq q b=true):q=some b:=by
 unfold nq at h;split at h
 ·rw[(beq_iff _ _).1 h]
 ·cases h
def loI:Int:=.negSucc 9223372036854775807
def hiI:Int:=.ofNat 9223372036854775807
def adl (j:Nat)(r:Int):AV:=cond (Nat.blt j 9) (.int .i64 (.ofNat j)) (cond (Nat.beq j 9) (.sym [(.negSucc 9223372036854775807,.negSucc 0,true)] r) (.sym [(.ofNat 9,.ofNat 9223372036854775807,true)] r))
def Jk:Nat→(Int×Int)×Int×Int
 |5=>((.negSucc 127,.ofNat 127),.negSucc 128,.ofNat 128)
 |6=>((.negSucc 32767,.ofNat 65535),.negSucc 32768,.ofNat 65536)
 |7=>((.ofNat 0,.ofNat 65535),.negSucc 0,.ofNat 65536)
 |10=>((.negSucc 127,.ofNat 127),.negSucc 128,.ofNat 128)
 |_=>((.ofNat 0,.ofNat 0),.negSucc 0,.ofNat 1)
def aih (k c:Nat)(n:Int):AV:=match c with
 |0=>.sym [(.negSucc 9223372036854775807,(Jk k).2.1,true)] n
 |1=>.sym [((Jk k).1.1,(Jk k).1.2,true)] n
 |_=>.sym [((Jk k).2.2,.ofNat 9223372036854775807,true)] n
def oV:Nat→List Nat
 |1=>[0,1,2,3,4,5,7]
 |2=>[0,1,2,3]
 |3=>[0,1,2,3,4,5,6,7]
 |4=>[0,1,2,3,5,6,8]
 |5=>[5,6]
 |8=>[0,1,2,3,4,5,6,7]
 |9=>[0,1]
 |_=>[0]
def Qg (j:Nat):List Nat→Bool
 |[]=>false
 |x::l=>cond (Nat.beq j x) true (Qg j l)
def okC (k j c:Nat):Bool:=cond (Qg j (oV k)) (Nat.beq c 1) false
def kV (f:Nat→Bool):List Nat→Bool
 |[]=>true
 |x::l=>cond (f x) (kV f l) false
theorem bM {f:Nat→Bool}:∀{l:List Nat} {x:Nat},kV f l=true→x∈l→f x=true
 |[],_,_,h=>by cases h
 |y::l,x,h,hx=>by
  unfold kV at h
  cases hy:f y with
  |false=>rw[hy] at h;cases h
  |true=>
   rw[hy] at h;rcases zQ.1 hx with rfl|hx
   ·exact hy
   ·exact bM h hx
noncomputable def alF (S:aj)(g:Nat)(k j c:Nat)(r n:Int):Option Bool:=Bc (dx S g [.agg [.int .i64 (.ofNat k),adl j r,aih k c n]] ⟨0,[],[],bE⟩)
noncomputable def acO (S:aj)(g:Nat)(r n:Int)(ks:List Nat):Bool:=kV (fun k=>kV (fun j=>kV (fun c=>bq (alF S g k j c r n) (okC k j c)) [0,1,2]) [0,1,2,3,4,5,6,7,8,9,10]) ks
noncomputable def acM (S:aj)(g:Nat)(k:Int)(r n:Int)(lo hi:Int):Option Bool:=Bc (dx S g [.agg [.sym [(lo,hi,true)] k,.raw (.int .i64 r),.raw (.int .i64 n)]] ⟨0,[],[],bE⟩)
end Ex
section
open Go.RowKit
theorem aL {B:Nat}{w W:World}(h:Below B w W):Below B w W.drew:=⟨h.os,h.tape,h.output,h.size,h.block⟩
def jo (s s':ByteArray)(l l':List aG):Bool:=decide (s=s'∧l.map bG=l'.map bG)
theorem PD (pg o:Int)(s s' ex:ByteArray)(al:Bool)(A A':Option Addr)(l l':List aG)(n n' c c':Nat)(w:World)(p p':Nat→Prop)(hs:s.size≤1000)(hs':s'.size≤1000)(hn:n=l.length)(hn':n'=l'.length)(hm:l.length≤1000)(hm':l'.length≤1000)(h:Rd w p A (dD l))(h':Rd w p' A' (dD l')):
 Calls Tryz.prog 113 #[.agg #[.int .i64 pg,.int .u8 o,.string s,.slice A n c,.string ex,.bool al],.agg #[.string s',.slice A' n' c']] w fun e w'=>e= .returned (.bool (jo s s' l l'))∧Below w.heap.size w w':=by
 have C1:Hid (∀W,Below w.heap.size w W→Calls Tryz.prog 185 #[.agg #[.string s,.slice A n c]] W fun e w'=>∃A' c',e= .returned (.agg #[.string s,.slice A' n c'])∧Ow w' W.heap.size A' (l.map bG)∧Below W.heap.size W w'):=fun W hb=>GR s A l n c W p hs hn hm (h.after hb)
 have C2:Hid (∀W,Below w.heap.size w W→Calls Tryz.prog 185 #[.agg #[.string s',.slice A' n' c']] W fun e w'=>∃A c,e= .returned (.agg #[.string s',.slice A n' c])∧Ow w' W.heap.size A (l'.map bG)∧Below W.heap.size W w'):=fun W hb=>GR s' A' l' n' c' W p' hs' hn' hm' (h'.after hb)
 have C3:Hid (∀W A c A' c',Rd W (fun _=>True) A (dD (l.map bG))→Rd W (fun _=>True) A' (dD (l'.map bG))→Calls Tryz.prog 184 #[.agg #[.string s,.slice A n c],.agg #[.string s',.slice A' n' c']] W fun e w'=>e= .returned (.bool (jo s s' l l'))∧Below W.heap.size W w'):=fun W A c A' c' r r'=>by
  exact Hy s s' A A' (l.map bG) (l'.map bG) n n' c c' W _ _ (by rw[zI,hn]) (by rw[zI,hn']) zy r r'
 have HA:Hid (Below w.heap.size w ((w.alloc (.cells #[.int .i64 pg,.int .u8 o,.string s,.slice A n c,.string ex,.bool al] 133)).alloc (.cells #[.string s',.slice A' n' c'] 28))):=((zh _ _).alloc (zn _) _).alloc zw _
 have jq:Hid (Bk ((w.alloc (.cells #[.int .i64 pg,.int .u8 o,.string s,.slice A n c,.string ex,.bool al] 133)).alloc (.cells #[.string s',.slice A' n' c'] 28)) w.heap.size 133 [.int .i64 pg,.int .u8 o,.string s,.slice A n c,.string ex,.bool al]):=
  (Bk.new w 133 [.int .i64 pg,.int .u8 o,.string s,.slice A n c,.string ex,.bool al]).alloc _
 have qL:Hid (Bk ((w.alloc (.cells #[.int .i64 pg,.int .u8 o,.string s,.slice A n c,.string ex,.bool al] 133)).alloc (.cells #[.string s',.slice A' n' c'] 28)) (w.heap.size+1) 28 [.string s',.slice A' n' c']):=by
  have:=Bk.new (w.alloc (.cells #[.int .i64 pg,.int .u8 o,.string s,.slice A n c,.string ex,.bool al] 133)) 28 [.string s',.slice A' n' c'];rwa [zU] at this
 clear h h' hs hs' hn hn' hm hm';go_enter Tryz.func113,Tryz.ntmps113;go_wp2;generalize ((w.alloc (.cells #[.int .i64 pg,.int .u8 o,.string s,.slice A n c,.string ex,.bool al] 133)).alloc (.cells #[.string s',.slice A' n' c'] 28))=W0 at HA jq qL ⊢;have HAd:Hid (Below w.heap.size w W0.drew):=aL HA.out;have K0:Hid (Bk W0.drew w.heap.size 133 [.int .i64 pg,.int .u8 o,.string s,.slice A n c,.string ex,.bool al]∧Bk W0.drew (w.heap.size+1) 28 [.string s',.slice A' n' c']):=⟨jq.out,qL.out⟩;have x0:=jq.cell 2 rfl;have x1:=jq.cell 3 rfl;have x2:=qL.cell 0 rfl;have x3:=qL.cell 1 rfl
 go_region_held3 (fun w'=>w'.cell? ⟨w.heap.size,2,none⟩=some (.string s)∧w'.cell? ⟨w.heap.size,3,none⟩=some (.slice A n c)∧w'.cell? ⟨w.heap.size+1,0,none⟩=some (.string s')∧w'.cell? ⟨w.heap.size+1,1,none⟩=some (.slice A' n' c')) (first|assumption|go_keep) (first
  |(go_at_call 185;(with_reducible refine (C1.out _ HAd.out).mono ?_);rintro e w1 ⟨A1,c1,rfl,ho,hb⟩;have HB1:=zo (HAd.out.trans (hb.mono HAd.out.size));have Ls:=zo ho;have K1:=zo (zM (K0.out.1.after hb) (K0.out.2.after hb));have y0:=K1.out.1.cell 2 rfl;have y1:=K1.out.1.cell 3 rfl;have y2:=K1.out.2.cell 0 rfl;have y3:=K1.out.2.cell 1 rfl;clear hb ho)
  |(go_at_call 185;(with_reducible refine (C2.out _ HB1.out).mono ?_);rintro e w2 ⟨A2,c2,rfl,ho,hb⟩;have HB2:=zo (HB1.out.trans (hb.mono HB1.out.size));have uW:=zo ho;have arX:=zo (Ls.out.after hb);have K2:=zo (zM (K1.out.1.after hb) (K1.out.2.after hb));have z0:=K2.out.1.cell 2 rfl;have z1:=K2.out.1.cell 3 rfl;have z2:=K2.out.2.cell 0 rfl;have z3:=K2.out.2.cell 1 rfl;clear hb ho)
  |(go_at_call 184;refine (C3.out _ _ _ _ _ (arX.rd.jH fun _ _=>trivial) (uW.rd.jH fun _ _=>trivial)).mono ?_;rintro e w3 ⟨rfl,hb⟩;have HB3:=zo (HB2.trans (hb.mono HB2.size));have v0:=(K2.1.after hb).cell 2 rfl;have v1:=(K2.1.after hb).cell 3 rfl;have v2:=(K2.2.after hb).cell 0 rfl;have v3:=(K2.2.after hb).cell 1 rfl;clear hb))
 all_goals
  go_wp2;go_ret;exact⟨rfl,HB3.out⟩
end
section
def qN (nm:List Nat)(ws:List (List Nat)):Bool:=ws.any fun x=>decide (x=nm)
def ahb:List (List Nat):=[[83,85,66],[65,78,68],[88,79,82],[79,82],[67,80]]
def ahd:List (List Nat):=[[65,68,68],[65,68,67],[83,66,67]]
def ahc:List (List Nat):=[[66,73,84],[82,69,83],[83,69,84],[73,77],[82,83,84],[79,85,84]]
def wJp:List (List Nat):=[[74,80],[67,65,76,76]]
def amC:List aG→Bool
 |o::_=>decide (o.1=3)
 |[]=>false
def ag8 (nm:List Nat)(l:List aG):Nat:=if qN nm ahc then 0 else if qN nm wJp || (decide (nm=[76,68]) && amC l) then 2 else 1
def afx (nm:List Nat)(l:List aG):List aG:=
 match l with
 |[a,b]=>if qN nm ahb && decide (a=(1,7,0)) then [b] else l
 |[b]=>if qN nm ahd then [(1,7,0),b] else l
 |_=>l
def ae5 (nm:List Nat)(l:List aG):List aG:=if decide (nm=[69,88]) && decide (l=[(3,2,0),(3,1,0)]) then [(3,1,0),(3,2,0)] else l
def aba (nm:List Nat)(l:List aG):List aG:=(ae5 nm (afx nm l)).map (ap7 (ag8 nm (ae5 nm (afx nm l))))
theorem abD (nm:List Nat)(l:List aG)(h:l.length≤3):(afx nm l).length≤3:=by
 unfold afx;split
 ·split<;>simp
 ·split<;>simp
 ·exact h
theorem ae4 (nm:List Nat)(l:List aG):(ae5 nm l).length=l.length:=by
 unfold ae5;split
 ·rename_i h;simp only[Bool.and_eq_true,decide_eq_true_eq] at h;rw[h.2];rfl
 ·rfl
theorem ajU (nm:List Nat)(l:List aG)(h:l.length≤3):(aba nm l).length≤3:=by
 unfold aba;rw[zI,ae4];exact abD nm l h
end
namespace Ex
open Go.RowKit
def Ra (f:Nat→bL→Bool):Nat→List bL→Bool
 |_,[]=>true
 |o,d::l=>cond (f o d) (Ra f (o+1) l) false
def Rb (f:Nat→bL→Bool):Nat→List (List bL)→Bool
 |_,[]=>true
 |o,c::l=>cond (Ra f o c) (Rb f (o+16) l) false
def allT (f:Nat→Nat→bL→Bool):Nat→List (List (List bL))→Bool
 |_,[]=>true
 |p,c::l=>cond (Rb (f p) 0 c) (allT f (p+1) l) false
theorem OC {f:Nat→bL→Bool}:∀{l:List bL} {o k:Nat} {d:bL},Ra f o l=true→iw l k=some d→f (o+k) d=true
 |[],_,_,_,_,hd=>by cases hd
 |e::l,o,k,d,h,hd=>by
  unfold Ra at h
  cases h1:f o e with
  |false=>rw[h1] at h;cases h
  |true=>
  rw[h1] at h
  cases k with
  |zero=>obtain rfl:=zq hd;exact h1
  |succ k=>
   have:=OC (show Ra f (o+1) l=true from h) (show iw l k=some d from hd)
   rwa [show o+1+k=o+(k+1) by omega] at this
theorem OD {f:Nat→bL→Bool}:∀{l:List (List bL)} {o k:Nat} {c:List bL},Rb f o l=true→iw l k=some c→Ra f (o+16 * k) c=true
 |[],_,_,_,_,hd=>by cases hd
 |e::l,o,k,c,h,hd=>by
  unfold Rb at h
  cases h1:Ra f o e with
  |false=>rw[h1] at h;cases h
  |true=>
  rw[h1] at h
  cases k with
  |zero=>obtain rfl:=zq hd;exact h1
  |succ k=>
   have:=OD (show Rb f (o+16) l=true from h) (show iw l k=some c from hd)
   rwa [show o+16+16 * k=o+16 * (k+1) by omega] at this
theorem OB {f:Nat→Nat→bL→Bool}:∀{l:List (List (List bL))} {p k:Nat} {c:List (List bL)},allT f p l=true→iw l k=some c→Rb (f (p+k)) 0 c=true
 |[],_,_,_,_,hd=>by cases hd
 |e::l,p,k,c,h,hd=>by
  unfold allT at h
  cases h1:Rb (f p) 0 e with
  |false=>rw[h1] at h;cases h
  |true=>
  rw[h1] at h
  cases k with
  |zero=>obtain rfl:=zq hd;exact h1
  |succ k=>
   have:=OB (show allT f (p+1) l=true from h) (show iw l k=some c from hd)
   rwa [show p+1+k=p+(k+1) by omega] at this
theorem dL {f:Nat→Nat→bL→Bool}(h:allT f 0 DF=true){p o:Nat}{d:bL}(hd:jd p o=some d):f p o d=true:=by
 obtain⟨l,c,h1,h2,h3⟩:=Gl hd;have:=OC (OD (OB h h1) h2) h3;rwa [show 0+p=p by omega,show 0+16 * (o / 16)+o % 16=o by omega] at this
theorem U0:((List.range 7).all fun p=>(List.range 256).all fun o=>(jd p o).isSome)=true:=by kernel_rfl
theorem tT {p o:Nat}(hp:p < 7)(ho:o < 256):∃d,jd p o=some d:=
 z8.1 (zY.1 (zY.1 U0 p (yS.2 hp)) o (yS.2 ho))
abbrev Shp:=List Nat×List Nat×List Nat
def Uy (a b:Shp):Bool:=cond (gH a.1 b.1) (cond (gH a.2.1 b.2.1) (gH a.2.2 b.2.2) false) false
def bZ:List Nat→List Nat
 |k::_::_::l=>k::bZ l
 |_=>[]
theorem Im {rs rs' ns ns':Nat→Int}:∀(ks:List Nat) (i:Nat),(∀j,i≤j→rs j=rs' j∧ns j=ns' j)→Cc i ks rs ns=Cc i ks rs' ns'
 |[],_,_=>rfl
 |k::l,i,h=>by
  simp only[Cc];rw[(h i (zn _)).1,(h i (zn _)).2,Im l (i+1) fun j hj=>h j zy]
theorem aaZ:∀(l:List Nat) (i:Nat),l.length % 3=0→∃rs ns:Nat→Int,aH iY (Cc i (bZ l) rs ns)=(l.map fun (n:Nat)=>Value.int .i64 (n:Int))∧(bZ l).length=l.length / 3
 |[],_,_=>⟨fun _=>0,fun _=>0,rfl,rfl⟩
 |[_],_,h=>by simp at h
 |[_,_],_,h=>by simp at h
 |k::r::n::l,i,h=>by
  obtain⟨rs,ns,h1,h2⟩:=aaZ l (i+1) (by simp only[List.length_cons] at h;omega)
  refine⟨fun j=>if j=i then (r:Int) else rs j,fun j=>if j=i then (n:Int) else ns j,?_,?_⟩
  ·simp only[bZ,Cc,aH,rI,cv,if_true,List.map_cons];rw[Im (rs':=rs) (ns':=ns) (bZ l) (i+1) (fun j hj=>⟨za zy,za zy⟩),h1]
   rfl
  ·simp only[bZ,List.length_cons,h2];omega
def aqf (d:bL):Bool:=Nat.beq (Nat.mod d.2.2.2.2.length 3) 0
theorem Zu:allT (fun _ _ d=>aqf d) 0 DF=true:=by kernel_rfl
def opsL:List Nat→List aG
 |k::r::n::l=>((k:Int),(r:Int),(n:Int))::opsL l
 |_=>[]
theorem o6:∀(l:List Nat),l.length % 3=0→(opsL l).length=l.length / 3
 |[],_=>rfl
 |[_],h=>by simp at h
 |[_,_],h=>by simp at h
 |k::r::n::l,h=>by
  simp only[opsL,List.length_cons,o6 l (by simp only[List.length_cons] at h;omega)]
  omega
theorem R8:∀(l:List Nat),l.length % 3=0→dD (opsL l)=l.map fun (n:Nat)=>Value.int .i64 (n:Int)
 |[],_=>rfl
 |[_],h=>by simp at h
 |[_,_],h=>by simp at h
 |k::r::n::l,h=>by
  simp only[opsL,kv,R8 l (by simp only[List.length_cons] at h;omega),zO]
def Hq (a b:Nat):List Nat→Option Nat
 |[]=>none
 |k::l=>match Hq a b l with
  |some j=>some (j+1)
  |none=>cond (Nat.beq k a || Nat.beq k b) (some 0) none
def uI (ks ex:List Nat):Option Vr:=cond (fG 100 ex) ((Hq 5 5 ks).map fun j=>(j,.negSucc 127,.ofNat 127)) none
def JH (ks ex:List Nat):Option Vr:=cond (fG 101 ex) ((Hq 10 10 ks).map fun j=>(j,.negSucc 127,.ofNat 127)) (cond (fG 110 ex) ((Hq 6 7 ks).map fun j=>(j,.ofNat 0,.ofNat 255)) (cond (fG 119 ex) ((Hq 6 7 ks).map fun j=>(j,.ofNat 0,.ofNat 65535)) none))
def zAt (cs:List Nat)(k:Nat):Bool:=match iw cs (k * 3+2) with
 |some n=>Nat.beq n 0
 |none=>false
def acN (cs:List Nat):Option Vr→Bool
 |none=>true
 |some v=>zAt cs v.1 && Nat.blt (v.1 * 3) cs.length
def agd:Option Vr→Option Vr→Bool
 |some x,some y=>!(Nat.beq x.1 y.1)
 |_,_=>true
def Du (r:Int×Int):Option Vr→Bool
 |none=>nJ r.1 (.ofNat 0) && nJ r.2 (.ofNat 0)
 |some v=>nJ r.1 v.2.1 && nJ r.2 v.2.2
def aqd (ks ex:List Nat)(k:Nat):Nat:=match iw ks k with
 |none=>0
 |some o=>cond (Nat.beq o 5 && fG 100 ex) 100 (cond (Nat.beq o 10 && fG 101 ex) 101 (cond (Nat.beq o 6 || Nat.beq o 7) (match Hq 6 7 (ks.drop (k+1)) with
  |some _=>0
  |none=>cond (fG 110 ex) 110 (cond (fG 119 ex) 119 0)) 0))
def rgL:Nat→Option (Int×Int)
 |100=>some (.negSucc 127,.ofNat 127)
 |101=>some (.negSucc 127,.ofNat 127)
 |110=>some (.ofNat 0,.ofNat 255)
 |119=>some (.ofNat 0,.ofNat 65535)
 |_=>none
def adg:Option (Int×Int)→Option (Int×Int)→Bool
 |none,none=>true
 |some a,some b=>nJ a.1 b.1 && nJ a.2 b.2
 |_,_=>false
def aiG (ks ex:List Nat):Bool:=[0,1,2].all fun k=>Nat.ble ks.length k || adg (rgL (aqd ks ex k)) (qV (uI ks ex) (JH ks ex) k)
def Qx (k r:Nat):Nat:=cond (Nat.beq k 2) (5+Nat.div r 2) (cond (Nat.beq k 3 || (Nat.beq k 4 || Nat.beq k 5)) (cond (Nat.beq r 5 || Nat.beq r 6) r 0) 0)
def Qy:List Nat→List Nat
 |k::r::_::l=>Qx k r::Qy l
 |_=>[]
def isZero (l:List Nat):Bool:=l.all fun x=>Nat.beq x 0
def Ns (p:Nat)(l:List Nat):Bool:=(l.all fun x=>Nat.beq x 0 || Nat.beq x p) && l.any fun x=>Nat.beq x p
def Yo (p:Nat)(l:List Nat):Bool:=match p with
 |0=>isZero l
 |1=>isZero l
 |2=>isZero l
 |3=>Ns 5 l
 |4=>Ns 6 l
 |5=>Ns 5 l
 |6=>Ns 6 l
 |_=>false
def gV (x:List Nat):List (List Nat)→Bool
 |[]=>false
 |y::l=>cond (gH x y) true (gV x l)
def aaI (p _o:Nat)(d:bL):Bool:=match d.1 with
 |1=>acN d.2.2.2.2 (uI (bZ d.2.2.2.2) d.2.2.1) && (acN d.2.2.2.2 (JH (bZ d.2.2.2.2) d.2.2.1) && (agd (uI (bZ d.2.2.2.2) d.2.2.1) (JH (bZ d.2.2.2.2) d.2.2.1) &&
   (Du (BU d.2.2.1) (uI (bZ d.2.2.2.2) d.2.2.1) && (Du (Dp d.2.2.1) (JH (bZ d.2.2.2.2) d.2.2.1) && (aiG (bZ d.2.2.2.2) d.2.2.1 && (Yo p (Qy d.2.2.2.2) && (Nat.ble d.2.2.2.2.length 9 && !(gH d.2.1 []))))))))
 |_=>true
theorem QL:allT aaI 0 DF=true:=by kernel_rfl
def f2 (n0 nx:Nat)(fo:Nat→Nat)(b:Nat):Nat:=cond (Nat.blt b n0) (fo b) (nx+(b - n0))
theorem NT {n0 nx:Nat}{fo:Nat→Nat}{b:Nat}(h:b < n0):f2 n0 nx fo b=fo b:=by
 have:Nat.blt b n0=true:=by simpa [Nat.blt_eq] using h
 unfold f2;rw[this];rfl
theorem BK {n0 nx:Nat}{fo:Nat→Nat}{b:Nat}(h:n0≤b):f2 n0 nx fo b=nx+(b - n0):=by
 have:Nat.blt b n0=false:=by
  cases hq:Nat.blt b n0 with
  |false=>rfl
  |true=>have:=aK hq;omega
 unfold f2;rw[this];rfl
def rnN (n0:Nat)(f:Nat→Nat):List (Nat×aF)→Option (List (Nat×aF))
 |[]=>some []
 |x::l=>cond (Nat.blt x.1 n0) (rnN n0 f l) (match OT f x.2,rnN n0 f l with
  |some y,some m=>some ((f x.1,y)::m)
  |_,_=>none)
section
variable {n0 nx:Nat} {fo:Nat→Nat}
theorem Ci:∀{l m:List (Nat×aF)},rnN n0 (f2 n0 nx fo) l=some m→∀d,(d < nx→au d m=none)∧∀y,au (nx+d) m=some y→∃z,au (n0+d) l=some z∧OT (f2 n0 nx fo) z=some y
 |[],m,h,d=>by
  obtain rfl:=zq h;exact⟨fun _=>rfl,fun y hy=>by cases hy⟩
 |x::l,m,h,d=>by
  unfold rnN at h
  cases hx:Nat.blt x.1 n0 with
  |true=>
   rw[hx] at h;have hx:=aK hx;obtain⟨q1,q2⟩:=Ci h d;refine⟨q1,fun y hy=>?_⟩
   obtain⟨z,h1,h2⟩:=q2 y hy;exact⟨z,by rw[show x::l=(x.1,x.2)::l from rfl,aD _ _ zy];exact h1,h2⟩
  |false=>
   rw[hx] at h;simp only[cond_false] at h
   have hge:n0≤x.1:=by
    rcases zP x.1 n0 with hq|hq
    ·have:Nat.blt x.1 n0=true:=by simpa [Nat.blt_eq] using hq
     rw[this] at hx;cases hx
    ·exact hq
   split at h
   case h_2=>cases h
   case h_1 y0 m' hy0 hm'=>
   obtain rfl:=zq h;obtain⟨q1,q2⟩:=Ci hm' d;rw[BK hge];refine⟨fun hd=>?_,fun y hy=>?_⟩
   ·rw[aD _ _ zy];exact q1 hd
   ·by_cases he:x.1=n0+d
    ·rw[show nx+(x.1 - n0)=nx+d by omega,aA] at hy
     obtain rfl:=zq hy;exact⟨x.2,by rw[show x::l=(x.1,x.2)::l from rfl,he,aA],hy0⟩
    ·rw[aD _ _ zy] at hy;obtain⟨z,h1,h2⟩:=q2 y hy;exact⟨z,by rw[show x::l=(x.1,x.2)::l from rfl,aD _ _ he];exact h1,h2⟩
theorem Dr:∀{l m:List (Nat×aF)},rnN n0 (f2 n0 nx fo) l=some m→(l.map (·.1)).Nodup→(m.map (·.1)).Nodup∧∀k,k∈m.map (·.1)→∃c,n0≤c∧c∈l.map (·.1)∧k=nx+(c - n0)
 |[],m,h,_=>by
  obtain rfl:=zq h;exact⟨xW,fun k hk=>by cases hk⟩
 |x::l,m,h,hn=>by
  rw[zO,yA] at hn;unfold rnN at h
  cases hx:Nat.blt x.1 n0 with
  |true=>
   rw[hx] at h;obtain⟨q1,q2⟩:=Dr h hn.2
   exact⟨q1,fun k hk=>by
    obtain⟨c,h1,h2,h3⟩:=q2 k hk;exact⟨c,h1,ze _ h2,h3⟩⟩
  |false=>
   rw[hx] at h;simp only[cond_false] at h
   have hge:n0≤x.1:=by
    rcases zP x.1 n0 with hq|hq
    ·have:Nat.blt x.1 n0=true:=by simpa [Nat.blt_eq] using hq
     rw[this] at hx;cases hx
    ·exact hq
   split at h
   case h_2=>cases h
   case h_1 y0 m' hy0 hm'=>
   obtain rfl:=zq h;obtain⟨q1,q2⟩:=Dr hm' hn.2;rw[BK hge];refine⟨?_,fun k hk=>?_⟩
   ·rw[zO,yA];refine⟨fun hk=>?_,q1⟩
    obtain⟨c,h1,h2,h3⟩:=q2 _ hk;have:c=x.1:=zy;subst this;exact hn.1 h2
   ·rw[zO] at hk;rcases zQ.1 hk with rfl|hk
    ·exact⟨x.1,hge,zb,rfl⟩
    ·obtain⟨c,h1,h2,h3⟩:=q2 k hk;exact⟨c,h1,ze _ h2,h3⟩
def Env.sub (ρ:Env)(fo:Nat→Nat):Env:=⟨fun b=>ρ.blk (fo b),fun b=>ρ.cap (fo b),fun b=>ρ.es (fo b)⟩
theorem Env.XD (ρ:Env)(fo:Nat→Nat)(n:Nat):RnE n fo (ρ.sub fo) ρ:=⟨fun _ _=>rfl,fun _ _=>rfl,fun _ _=>rfl⟩
theorem XZ {ρ:Env}{fo:Nat→Nat}{n:Nat}{w:World}{b:Nat}{k k':aF}(hk:OT fo k=some k')(ho:k.ok n)(hr:k'.rep ρ w (fo b)):k.rep (ρ.sub fo) w b:=by
 have hR:=Env.XD ρ fo n
 cases k<;>simp only[OT,Option.some.injEq,reduceCtorEq] at hk
 ·rename_i vs e sz;subst hk;have ho:oks n vs:=ho
  cases sz with
  |none=>
   simp only[aF.rep] at hr ⊢;rw[← j6 hR _ ho];exact hr
  |some sz=>
   obtain⟨q,cur,h1,h2,h3,h4,h5,h6⟩:=hr;exact⟨q,cur,h1,h2,h3,h4,by rw[Cj] at h5;exact h5,by rw[← j6 hR _ ho];exact h6⟩
 ·rename_i es c;subst hk;simp only[aF.rep] at hr ⊢
  have e:(es.map fun x=>(sU fo x.1,sU fo x.2.1,x.2.2)).map (aI ρ)=es.map (aI (ρ.sub fo)):=by
   rw[yC];refine yt fun x hx=>?_
   simp only[Function.comp_apply,aI,sS hR _ (ho x hx).1,sS hR _ (ho x hx).2]
  rw[← e];exact hr
theorem aJ.sub {w0:World}{ρ:Env}{W:AW}{w:World}(hW:aJ w0 ρ W w){Ce:List (Nat×aF)}(hok:∀b k,au b Ce=some k→b < n0∧k.ok n0)(hin:∀b k,au b Ce=some k→∃k',OT fo k=some k'∧au (fo b) W.bl=some k')
 (hinj:∀b b' k k',au b Ce=some k→au b' Ce=some k'→fo b=fo b'→b=b') (JZ:(Ce.map (·.1)).Nodup):aJ w0 (ρ.sub fo) ⟨n0,Ce,[],W.gl⟩ w:=by
 refine⟨hW.below,fun b k hb=>?_,fun b b' k k' h1 h2 e=>?_,fun b k hb=>?_,JZ,hW.gl⟩
 ·obtain⟨q1,q2⟩:=hok b k hb;obtain⟨k',_,h2⟩:=hin b k hb;obtain⟨_,_,q3,q4⟩:=hW.ok _ _ h2;exact⟨q1,q2,q3,q4⟩
 ·obtain⟨_,_,g1⟩:=hin b k h1;obtain⟨_,_,g2⟩:=hin b' k' h2;exact hinj b b' k k' h1 h2 (hW.inj _ _ _ _ g1 g2 e)
 ·obtain⟨k',g1,g2⟩:=hin b k hb;exact XZ g1 (hok b k hb).2 (hW.rep _ _ g2)
theorem Post.frame {w0:World}{ρ:Env}{W:AW}{w w':World}(hW:aJ w0 ρ W w){Ce:List (Nat×aF)}(hfo:∀b,b < n0→fo b < W.nx){gz:Env}{W1:AW}{m:List (Nat×aF)}(hm:rnN n0 (f2 n0 W.nx fo) W1.bl=some m)(ZU:W1.az=[])
 (hP:Post w0 (ρ.sub fo) ⟨n0,Ce,[],W.gl⟩ w gz W1 w'):
 ∃ρ',Post w0 ρ W w ρ' ⟨W.nx+(W1.nx - n0),m++W.bl,W.az,W.gl⟩ w'∧RnE W1.nx (f2 n0 W.nx fo) gz ρ':=by
 have hn:n0≤W1.nx:=hP.nx
 let ρ':Env:=⟨fun b=>if b < W.nx then ρ.blk b else gz.blk (b - W.nx+n0),fun b=>if b < W.nx then ρ.cap b else gz.cap (b - W.nx+n0),fun b=>if b < W.nx then ρ.es b else gz.es (b - W.nx+n0)⟩
 have hlo:∀b,b < W.nx→ρ'.blk b=ρ.blk b:=fun b hb=>zW hb
 have hE:Ext W.nx ρ ρ':=⟨fun b hb=>zW hb,fun b hb=>zW hb,fun b hb=>zW hb⟩
 have hhi:∀c,n0≤c→ρ'.blk (W.nx+(c - n0))=gz.blk c:=fun c hc=>by
  show (if W.nx+(c - n0) < W.nx then _ else gz.blk (W.nx+(c - n0) - W.nx+n0))=_
  rw[za zy]
  congr 1
  omega
 have hRn:RnE W1.nx (f2 n0 W.nx fo) gz ρ':=by
  refine⟨fun b hb=>?_,fun b hb=>?_,fun b hb=>?_⟩
  all_goals
   rcases zP b n0 with hlt|hge
  ·rw[NT hlt,hlo _ (hfo b hlt),hP.ext.blk b hlt];rfl
  ·rw[BK hge,hhi b hge]
  ·rw[NT hlt,hE.cap _ (hfo b hlt),hP.ext.cap b hlt];rfl
  ·rw[BK hge];show (if W.nx+(b - n0) < W.nx then _ else gz.cap (W.nx+(b - n0) - W.nx+n0))=_
   rw[za zy]
   congr 1
   omega
  ·rw[NT hlt,hE.es _ (hfo b hlt),hP.ext.es b hlt];rfl
  ·rw[BK hge];show (if W.nx+(b - n0) < W.nx then _ else gz.es (W.nx+(b - n0) - W.nx+n0))=_
   rw[za zy]
   congr 1
   omega
 have hget:∀b k,au b (m++W.bl)=some k→(b < W.nx∧au b W.bl=some k)∨∃c z,n0≤c∧b=W.nx+(c - n0)∧au c W1.bl=some z∧OT (f2 n0 W.nx fo) z=some k:=fun b k hk=>by
  rw[pY] at hk;by_cases hlt:b < W.nx
  ·rw[(Ci hm b).1 hlt] at hk;exact .inl ⟨hlt,hk⟩
  ·have e:b=W.nx+(b - W.nx):=zy
   cases hq:au b m with
   |none=>
    rw[hq] at hk;exact (hlt (hW.ok b k hk).1).elim
   |some y=>
    rw[hq] at hk;obtain rfl:=zq hk;rw[e] at hq;obtain⟨z,h1,h2⟩:=(Ci hm _).2 y hq;exact .inr ⟨n0+(b - W.nx),z,zy,zy,h1,h2⟩
 have hT:∀i,¬fV (ρ.sub fo) ⟨n0,Ce,[],W.gl⟩ W1 i:=fun i ⟨b,hb,_,_⟩=>by rw[ZU] at hb;cases hb
 have hup:∀c,n0≤c→c < W1.nx→w.heap.size≤gz.blk c:=fun c hc1 hc=>by
  rcases zP (gz.blk c) w.heap.size with h|h
  ·exact (hT _ (hP.fresh c hc1 hc h)).elim
  ·exact h
 have hgr:Gr w w' (fun _=>False):=hP.gr.mono fun i _ h=>hT i h
 have hmap:∀b,b < W1.nx→f2 n0 W.nx fo b < W.nx+(W1.nx - n0):=fun b hb=>by
  rcases zP b n0 with hlt|hge
  ·rw[NT hlt];have:=hfo b hlt;omega
  ·rw[BK hge];omega
 refine⟨ρ',⟨hE,x8 _ _,fun _ h=>h,hgr.mono fun _ _ h=>h.elim,fun b h1 h2 h3=>?_,⟨hP.rep.below,fun b k hk=>?_,fun b b' k k' h1 h2 e=>?_,fun b k hk=>?_,?_,hW.gl⟩,fun b hlt hs=>?_,fun b _ h=>.inl h,rfl⟩,hRn⟩
 ·have h2:b < W.nx+(W1.nx - n0):=h2;have e:b=W.nx+((b - W.nx+n0) - n0):=zy;rw[e,hhi _ zy] at h3;have:=hup (b - W.nx+n0) zy zy;omega
 ·rcases hget b k hk with⟨hlt,h⟩|⟨c,z,hc,rfl,hz,hzk⟩
  ·obtain⟨q1,q2,q3,q4⟩:=hW.ok b k h;rw[hlo b hlt];exact⟨zZ hlt (x8 _ _),aF.ok.mono (x8 _ _) q2,q3,zZ q4 hgr.size⟩
  ·obtain⟨q1,q2,q3,q4⟩:=hP.rep.ok c z hz;rw[hhi c hc];exact⟨by show W.nx+(c - n0) < W.nx+(W1.nx - n0);omega,XY hmap hzk q2,q3,q4⟩
 ·rcases hget b k h1 with⟨hlt,g1⟩|⟨c,z,hc,rfl,hz,hzk⟩<;>rcases hget b' k' h2 with⟨hlt',g2⟩|⟨c',z',hc',rfl,hz',aqj⟩
  ·rw[hlo b hlt,hlo b' hlt'] at e;exact hW.inj b b' k k' g1 g2 e
  ·rw[hlo b hlt,hhi c' hc'] at e;have:=(hW.ok b k g1).2.2.2;have:=hup c' hc' (hP.rep.ok c' z' hz').1;omega
  ·rw[hhi c hc,hlo b' hlt'] at e;have:=(hW.ok b' k' g2).2.2.2;have:=hup c hc (hP.rep.ok c z hz).1;omega
  ·rw[hhi c hc,hhi c' hc'] at e;rw[hP.rep.inj c c' z z' hz hz' e]
 ·rcases hget b k hk with⟨hlt,h⟩|⟨c,z,hc,rfl,hz,hzk⟩
  ·exact aF.Aj (hgr.block _ (hW.ok b k h).2.2.2 id) hE hlt (hW.ok b k h).2.1 (hW.rep b k h)
  ·have:=RV hRn (hP.rep.ok c z hz).1 hzk (hP.rep.ok c z hz).2.1 (hP.rep.rep c z hz);rwa [BK hc] at this
 ·obtain⟨k1,k2⟩:=Dr hm hP.rep.ng;rw[yu,xK];refine⟨k1,hW.ng,fun a ha b hb e=>?_⟩
  obtain⟨c,_,_,rfl⟩:=k2 a ha;obtain⟨y,hy,rfl⟩:=zX.1 hb;have:=hW.JR hy;omega
 ·rw[z8] at hs ⊢;obtain⟨k,hk⟩:=hs;rcases hget b k hk with⟨_,h⟩|⟨c,z,hc,rfl,_⟩
  ·exact⟨k,h⟩
  ·omega
end
abbrev sF:=List AV×Nat×List (Nat×aF)×AV×Nat×List (Nat×aF)
def Ev (call:aj)(gl:List (Nat×List Value))(g:Nat)(e:sF):Bool:=abf e.2.1 e.2.2.2.1 e.2.2.2.2.1 e.2.2.2.2.2 (call g e.1 ⟨e.2.1,e.2.2.1,[],gl⟩)
theorem nL {f:Nat→Nat}:∀{l:List AV},gY l=true→Li f l=l
 |[],_=>rfl
 |v::l,h=>by
  simp only[gY,Bool.and_eq_true] at h;rw[Li,nL h.2,uz v h.1]
 where
 uz {f:Nat→Nat}:∀(v:AV),mM v=true→sU f v=v
  | .raw _,_ | .bool _,_ | .int _ _,_ | .str _,_ | .bU,_ | .jK _ _,_ | .bT,_=>rfl
  | .ptr _ _,h | .slice _ _ _ _ _,h | .FI _,h | .map _,h | .Bi _,h | .uK _,h | .sym _ _,h=>by simp[mM] at h
  | .fn _ l c,h=>by
    simp only[mM,Bool.and_eq_true] at h;rw[sU,nL h.1,nL h.2]
  | .iface _ v,h=>by rw[sU,uz v h]
  | .agg l,h=>by rw[sU,nL h]
  | .tuple l,h=>by rw[sU,nL h]
def ajX (a:List (Nat×Nat))(k k0:aF):Bool:=match k,k0 with
 | .map es c,.map es0 c0=>VY es es0 && (Nat.beq c c0 && es.all fun x=>mM x.1 && mM x.2.1)
 |_,_=>Wv 0 a k k0
theorem afo {n n0:Nat}{a:List (Nat×Nat)}{k k0:aF}(h:ajX a k k0=true)(hf:∀b,b < n→gA 0 (rv a) b < n0)(hk:k.ok n):OT (gA 0 a) k0=some k∧k0.ok n0:=by
 unfold ajX at h;split at h
 ·rename_i es c es0 c0;simp only[Bool.and_eq_true,List.all_eq_true] at h;obtain⟨h1,h2,h3⟩:=h;obtain rfl:=Ki h1;obtain rfl:=(beq_iff _ _).1 h2;refine⟨yV (fun l=>some (aF.map l c)) ?_,fun x hx=>⟨mK _ _ (h3 x hx).1,mK _ _ (h3 x hx).2⟩⟩
  refine (yt fun x hx=>?_).trans (vz _)
  rw[nL.uz _ (h3 x hx).1,nL.uz _ (h3 x hx).2];rfl
 ·unfold Wv at h;split at h
  ·simp only[Bool.and_eq_true] at h;obtain⟨t1,t2,t3,t4⟩:=h;obtain rfl:=(beq_iff _ _).1 t3;obtain rfl:=YL t4;refine⟨by rw[OT,← fE t1],?_⟩
   show oks n0 _;rw[fE t2];exact j5 hf _ hk
  ·cases h
def aeJ (args:List AV)(W:AW)(e:sF)(a:List (Nat×Nat)):Bool:=lI args (Li (gA 0 a) e.1) && (lI e.1 (Li (gA 0 (rv a)) args) && (Nat.blt 0 e.2.1 && (Nat.blt 0 W.nx && (a.all (fun x=>Nat.blt x.1 e.2.1 && Nat.blt x.2 W.nx) &&
 (ndN (e.2.2.1.map fun x=>gA 0 a x.1) && e.2.2.1.all fun x=>Nat.blt x.1 e.2.1 && (match au (gA 0 a x.1) W.bl with|some k=>ajX a k x.2|none=>false))))))
def NF (args:List AV)(W:AW):List sF→Option (sF×List (Nat×Nat))
 |[]=>none
 |e::l=>cond (aeJ args W e (mtL ((FY e.1).zip (FY args)) W.bl e.2.2.1)) (some (e,mtL ((FY e.1).zip (FY args)) W.bl e.2.2.1)) (NF args W l)
theorem Ia {args:List AV}{W:AW}:∀{l:List sF} {x:sF×List (Nat×Nat)},NF args W l=some x→x.1∈l∧aeJ args W x.1 x.2=true
 |[],_,h=>by cases h
 |e::l,x,h=>by
  unfold NF at h
  cases hq:aeJ args W e (mtL ((FY e.1).zip (FY args)) W.bl e.2.2.1) with
  |true=>
   rw[hq] at h;obtain rfl:=zq h;exact⟨zb,hq⟩
  |false=>
   rw[hq] at h;obtain⟨h1,h2⟩:=Ia (show NF args W l=some x from h)
   exact⟨ze _ h1,h2⟩
def aad (gl:List (Nat×List Value))(g:Nat)(l:List sF):aj:=fun g' args W=>cond (Nat.beq g' g) (match NF args W l with
 |some x=>match rnN x.1.2.1 (f2 x.1.2.1 W.nx (gA 0 x.2)) x.1.2.2.2.2.2 with
  |some m=>cond (VN gl W.gl) (some (sU (f2 x.1.2.1 W.nx (gA 0 x.2)) x.1.2.2.2.1,⟨W.nx+(x.1.2.2.2.2.1 - x.1.2.1),m++W.bl,W.az,W.gl⟩)) none
  |none=>none
 |none=>none) none
theorem J8 {P:Program}{call:aj}(hC:ai P call)(gl:List (Nat×List Value))(g:Nat)(l:List sF)(h:l.all (Ev call gl g)=true):ai P (aad gl g l):=fun g' args W v W' hc=>by
 unfold aad at hc
 cases hg:Nat.beq g' g with
 |false=>rw[hg] at hc;cases hc
 |true=>
 rw[hg] at hc;obtain rfl:=(beq_iff _ _).1 hg;simp only[cond_true] at hc;split at hc
 case h_2=>cases hc
 case h_1 x hx=>
 split at hc
 case h_2=>cases hc
 case h_1 m hm=>
 cases hgl:VN gl W.gl with
 |false=>rw[hgl] at hc;cases hc
 |true=>
 rw[hgl] at hc;obtain rfl:=rY hgl;simp only[cond_true] at hc;obtain⟨rfl,rfl⟩:=zm (zq hc);obtain⟨hxl,hma⟩:=Ia hx;obtain⟨⟨agU,n0,Ce,v0,n1,bl1⟩,a⟩:=x;dsimp only at hm hxl hma ⊢;have VJ:=zY.1 h _ hxl;unfold Ev at VJ;dsimp only at VJ;unfold aeJ at hma;simp only[Bool.and_eq_true,List.all_eq_true] at hma;obtain⟨m1,m2,m3,m4,m5,m6,m7⟩:=hma;have m3:=aK m3;have m4:=aK m4
 have hf:∀b,b < W.nx→gA 0 (rv a) b < n0:=fun b _=>S9 m3 (fun x hx=>by
  obtain⟨y,hy,rfl⟩:=zX.1 hx;exact aK (m5 y hy).1) b
 have hg:∀b,gA 0 a b < W.nx:=fun b=>S9 m4 (fun x hx=>aK (m5 x hx).2) b
 have e0:=fE m1
 cases hr:call g' agU ⟨n0,Ce,[],W.gl⟩ with
 |none=>rw[hr] at VJ;cases VJ
 |some y=>
 rw[hr] at VJ;obtain⟨q1,_,q3⟩:=hC _ _ _ _ _ hr;refine⟨q1,fun _ hb=>hb,fun w0 ρ w hargs hW=>?_⟩
 have hk:=Sl Ce (JL m6)
 have hin:∀b k0,au b Ce=some k0→b < n0∧∃k,au (gA 0 a b) W.bl=some k∧OT (gA 0 a) k0=some k∧k0.ok n0:=fun b k0 hb=>by
  obtain⟨p1,p2⟩:=m7 _ (bf hb);refine⟨aK p1,?_⟩;split at p2
  ·rename_i k hk;obtain⟨p3,p4⟩:=afo p2 hf (hW.ok _ _ hk).2.1;exact⟨k,hk,p3,p4⟩
  ·cases p2
 have h0:aJ w0 (ρ.sub (gA 0 a)) ⟨n0,Ce,[],W.gl⟩ w:=hW.sub (fun b k hb=>⟨(hin b k hb).1,(hin b k hb).2.choose_spec.2.2⟩) (fun b k hb=>⟨_,(hin b k hb).2.choose_spec.2.1,(hin b k hb).2.choose_spec.1⟩)
  (fun b b' k k' h1 h2 e=>hk.2 _ (bf h1) _ (bf h2) e) hk.1
 have ha0:oks n0 agU:=by
  rw[fE m2];exact j5 hf _ hargs
 have hcall:=q3 w0 (ρ.sub (gA 0 a)) w ha0 h0;rw[← j6 (Env.XD ρ (gA 0 a) n0) _ ha0,← e0] at hcall;refine hcall.mono ?_;rintro e' w' ⟨ρa,rfl,hPa,hva⟩;obtain⟨gz,hP,hcv,hv⟩:=hPa.canon VJ hva;rw[← hcv];obtain⟨ρ',hP',hRn⟩:=hP.frame hW (fun b _=>hg b) hm rfl
 have hn1:n0≤n1:=hP.nx
 exact⟨ρ',by rw[sS hRn _ hv],hP',Dq (fun b' hb'=>by
  show _ < W.nx+(n1 - n0);rcases zP b' n0 with hlt|hge
  ·rw[NT hlt];have:=hg b';omega
  ·rw[BK hge];have:b' < n1:=hb';omega) _ hv⟩
end Ex
section
open Go.RowKit
def AA (s:ByteArray)(x:Nat):Bool:=EE s.data.toList x && !(s.size == 0)
theorem aiv (s:ByteArray)(x b:Nat)(w:World)(hx:x < 256)(hs:s.size≤maxLen)(hc:w.cell? ⟨b,0,none⟩=some (.int .i64 (x:Int))):
 Calls Tryz.prog 245 #[.string s,.pointer (some ⟨b,0,none⟩)] w fun e w'=>e= .returned (.bool (AA s x))∧w=w':=by
 have F:=zo (fun W=>NK s x W hx hs)
 have hw:IntKind.u8.wrap (x:Int)=(x:Int):=by simp[IntKind.wrap,IntKind.bits,IntKind.signed];omega
 clear hs;go_enter Tryz.func245,Tryz.ntmps245
 go_wp2_with (first|(simp only)|(go_at_call 246;refine (F.out _).mono ?_;rintro e w' ⟨rfl,rfl⟩))
 all_goals go_ret
 all_goals exact⟨rfl,rfl⟩
def FE (l:List ByteArray):List Value:=l.map Value.string
theorem Rd.afT {w:World}{p:Nat→Prop}{A:Option Addr}{l:List ByteArray}(h:Rd w p A (FE l)){k:Nat}(hk:k < l.length):
 ∃b o s,A=some ⟨b,o,none⟩∧w.cell? ⟨b,o+k,none⟩=some (.string s)∧l[k]? =some s:=by
 have hx:k < (FE l).length:=by simp[FE];exact hk
 obtain⟨b,o,h1,_,h3⟩:=h.ex (fun e=>by rw[e] at hx;simp at hx)
 exact⟨b,o,l[k],h1,h3 k _ (by simp[FE,hk]),zg hk⟩
def kJ (x:Nat):List ByteArray→Nat→Int
 |[],_=>-1
 |s::l,k=>if AA s x then (k:Int) else kJ x l (k+1)
theorem pJ {x:Nat}:∀{l:List ByteArray} {k i:Nat},(∀j s,j < i→l[j]? =some s→AA s x=false)→i≤l.length→kJ x l k=kJ x (l.drop i) (k+i)
 |l,k,0,_,_=>by simp
 |[],k,i+1,_,h=>by simp at h
 |s::l,k,i+1,h,hl=>by
  have h0:=h 0 s zy rfl;rw[show kJ x (s::l) k=(if AA s x then (k:Int) else kJ x l (k+1)) from rfl,h0,vJ]
  simp only[Bool.false_eq_true,if_false];rw[pJ (l:=l) (k:=k+1) (i:=i) (fun j t hj ht=>h (j+1) t zy (by simpa using ht)) (by simpa using hl),show k+1+i=k+(i+1) by omega]
theorem EF {x:Nat}:∀(l:List ByteArray) (k:Nat),decide (0≤kJ x l k)=l.any (AA · x)
 |[],k=>rfl
 |s::l,k=>by
  unfold kJ;rw[xX]
  cases hf:AA s x
  ·simp[EF l (k+1)]
  ·simp
theorem ZO (A:Option Addr)(l:List ByteArray)(n c x b:Nat)(w:World)(p:Nat→Prop)(hn:l.length=n)(hm:(n:Int)≤140737488355328)(hx:x < 256)(hs:∀s,s∈l→s.size≤maxLen)(h:Rd w p A (FE l))(hc:w.cell? ⟨b,0,none⟩=some (.int .i64 (x:Int))):
 Calls Tryz.prog 289 #[.slice A n c,.func (.func 245) #[] #[.pointer (some ⟨b,0,none⟩)]] w fun e w'=>e= .returned (.int .i64 (kJ x l 0))∧w=w':=by
 have HR:=zo h;have HN:=zo hn;have HS:=zo hs;have HC:=zo hc;have HX:=zo hx;clear h hn hs hc hx;go_enter Tryz.func289,Tryz.ntmps289;go_wp2
 go_loop [8] (fun v=>∃k:Nat,v= .int .i64 k∧k≤n∧Hid (∀j s,j < k→l[j]? =some s→AA s x=false)) (fun v=>n - (intOf v).toNat)
 case atStart=>exact⟨0,rfl,zy,fun j _ hj=>absurd hj (yf _)⟩
 case round=>
  obtain⟨k,rfl,hk,hr⟩:=hrel;by_cases hlt:k < n
  ·obtain⟨b',o,s,rfl,hc0,hz⟩:=HR.afT (k:=k) (by rw[HN.out];exact hlt)
   have HZ:=zo hz;have F:=zo (fun W (hW:w=W)=>aiv s x b W HX.out (HS.out s (zD hz)) (by rw[← hW];exact HC.out))
   clear hz;by_cases hf:AA s x=true
   ·have HI:Hid (kJ x l 0=(k:Int)):=by
     have h1:=pJ (k:=0) hr.out (by have:=HN.out;omega)
     have hlt2:k < l.length:=by rw[HN.out];exact hlt
     have h2:l.drop k=s::l.drop (k+1):=by
      rw[zK hlt2];have:=zg hlt2;rw[HZ.out] at this;rw[zq this]
     show _=_;rw[h1,h2];unfold kJ;rw[hf];simp
    go_wp2_with (go_at_call 245;refine (F.out _ rfl).mono ?_;rintro e w' ⟨rfl,rfl⟩;rw[hf])
    all_goals go_ret
    all_goals exact⟨iA HI.symm,rfl⟩
   ·have hf:AA s x=false:=by simpa using hf
    go_wp2_with (go_at_call 245;refine (F.out _ rfl).mono ?_;rintro e w' ⟨rfl,rfl⟩;rw[hf])
    exact⟨⟨k+1,by go_num,zy,fun j t hj ht=>by
     by_cases e:j=k
     ·subst e;rw[HZ.out] at ht;rw[← zq ht];exact hf
     ·exact hr.out j t zy ht⟩,by simp[intOf];omega⟩
  ·have HI:Hid (kJ x l 0= -1):=by
    have h1:=pJ (k:=0) (i:=l.length) (fun j s hj=>hr.out j s (by have:=HN.out;omega)) (zn _)
    show _=_;rw[h1,wN];rfl
   go_wp2
   all_goals go_ret
   all_goals exact⟨iA HI.symm,rfl⟩
theorem Io (A:Option Addr)(l:List ByteArray)(n c x b:Nat)(w:World)(p:Nat→Prop)(hn:l.length=n)(hm:(n:Int)≤140737488355328)(hx:x < 256)(hs:∀s,s∈l→s.size≤maxLen)(h:Rd w p A (FE l))(hc:w.cell? ⟨b,0,none⟩=some (.int .i64 (x:Int))):
 Calls Tryz.prog 224 #[.slice A n c,.func (.func 245) #[] #[.pointer (some ⟨b,0,none⟩)]] w fun e w'=>e= .returned (.bool (l.any (AA · x)))∧w=w':=by
 have F:=zo (fun W (hW:w=W)=>ZO A l n c x b W p hn hm hx hs (by rw[← hW];exact h) (by rw[← hW];exact hc))
 have HA:=zo (EF (x:=x) l 0);clear h hn hs hc hx hm;go_enter Tryz.func224,Tryz.ntmps224
 go_wp2_with (go_at_call 289;refine (F.out _ rfl).mono ?_;rintro e w' ⟨rfl,rfl⟩)
 all_goals go_ret
 all_goals exact⟨dz HA.out,rfl⟩
end
namespace Ex
open Go.RowKit
def mpE:Nat→List (List Nat)→List (AV×AV×Nat)
 |i,w::l=>(.str w,.bool true,i)::mpE (i+1) l
 |_,[]=>[]
def apK:{l:List (Nat×aF) // l=[(0,.map (mpE 0 (FD 32 (dc 0x4144432041444420414e44204249542043414c4c204343462043502043504420435044522043504920435049522043504c204441412044454320444920444a4e5a204549204558204558582048414c5420494d20494e20494e4320494e4420494e445220494e4920494e4952204a50204a52204c44204c4444204c444452204c4449204c444952204e4547204e4f50204f52204f544452204f544952204f5554204f555444204f55544920504f50205055534820524553205245542052455449205245544e20524c20524c4120524c4320524c434120524c4420525220525241205252432052524341205252442052535420534243205343462053455420534c4120534c4c205352412053524c2053554220584f52))) 68)]}:=⟨_,by conv=>rhs;reduce⟩
def RQ:List (Nat×aF):=apK.1
def mnL (nm:List Nat)(p:Nat):List (Nat×Nat×bL):=((List.range 256).map fun o=>(p,o,(jd p o).getD (noO 0))).filter fun x=>Nat.beq x.2.2.1 1 && gH x.2.2.2.1 nm
def rwE:Nat→List (Nat×Nat×bL)→List AV
 |i,(p,o,d)::l=>.int .i64 (.ofNat p):: .int .u8 (.ofNat o):: .str d.2.1::opS i d.2.2.2.2:: .str d.2.2.1:: .bool d.2.2.2.1::rwE (i+1) l
 |_,[]=>[]
def rwB:Nat→List (Nat×Nat×bL)→List (Nat×aF)
 |i,x::l=>opB i x.2.2.2.2.2.2++rwB (i+1) l
 |_,[]=>[]
def nmE (nm ps:List Nat):sF:=let l:=(ps.map (mnL nm)).flatten
 ([.str nm,.slice 0 0 0 ps.length (some ps.length)],1,[(0,.cells (opC ps) 3 none)],.slice 1 0 0 l.length none,2+l.length,(1,.cells (rwE 2 l) 133 (some 6))::rwB 2 l)
def amk:{e:sF // e=nmE [76,68] [3,5]}:=⟨_,by conv=>rhs;reduce⟩
def ain:sF:=amk.1
def aml:{e:sF // e=nmE [74,82] [0,1,2]}:=⟨_,by conv=>rhs;reduce⟩
def aio:sF:=aml.1
theorem apF (r n:Int):acO OV 178 r n [1,2,3,4,5]=true:=by kernel_rfl
theorem apE (r n:Int):acO OV 178 r n [6,7,8,9,10]=true:=by kernel_rfl
theorem alD (k r n:Int):acM OV 178 k r n (.negSucc 9223372036854775807) (.ofNat 0)=some false:=by kernel_rfl
theorem alE (k r n:Int):acM OV 178 k r n (.ofNat 11) (.ofNat 9223372036854775807)=some false:=by kernel_rfl
def B64 (o:aG):Prop:=(loI≤o.1∧o.1≤hiI)∧(loI≤o.2.1∧o.2.1≤hiI)∧(loI≤o.2.2∧o.2.2≤hiI)
theorem D6:loI= -9223372036854775808:=rfl
theorem En:hiI=9223372036854775807:=rfl
def sZ (r:Int):Nat:=if r < 0 then 9 else if 8 < r then 10 else r.toNat
def DN (k:Nat)(n:Int):Nat:=if n < (Jk k).1.1 then 0 else if (Jk k).1.2 < n then 2 else 1
theorem adj (r:Int):sZ r≤10:=by
 unfold sZ;split
 ·omega
 ·split<;>omega
theorem adU (k:Nat)(n:Int):DN k n≤2:=by
 unfold DN;split
 ·omega
 ·split<;>omega
theorem FM {lo hi x:Int}(h1:lo≤x)(h2:x≤hi):kM [(lo,hi,true)] x:=fun f hf=>by
 obtain rfl:=zR.1 hf;simp[h1,h2]
theorem adk {r:Int}(h:loI≤r∧r≤hiI):(adl (sZ r) r).ok 0∧cv iY (adl (sZ r) r)= .int .i64 r:=by
 rw[D6,En] at h;unfold sZ;by_cases h1:r < 0
 ·rw[zW h1];exact⟨FM (lo:=.negSucc 9223372036854775807) (hi:=.negSucc 0) zy zy,rfl⟩
 ·rw[za h1];by_cases h2:8 < r
  ·rw[zW h2];exact⟨FM (lo:=.ofNat 9) (hi:=.ofNat 9223372036854775807) (by show (9:Int)≤r;omega) (by show r≤(9223372036854775807:Int);omega),rfl⟩
  ·rw[za h2];have h3:Nat.blt r.toNat 9=true:=by rw[Nat.blt_eq];omega
   unfold adl;rw[h3];refine⟨trivial,?_⟩;show Value.int .i64 (r.toNat:Int)=_;rw[xP zy]
theorem X7 (k:Nat):(Jk k).2.1=(Jk k).1.1 - 1∧(Jk k).2.2=(Jk k).1.2+1:=by
 unfold Jk;split<;>exact⟨rfl,rfl⟩
theorem adV {k:Nat}{n:Int}(h:loI≤n∧n≤hiI):(aih k (DN k n) n).ok 0∧cv iY (aih k (DN k n) n)= .int .i64 n:=by
 rw[D6,En] at h;obtain⟨e1,e2⟩:=X7 k;unfold DN;by_cases h1:n < (Jk k).1.1
 ·rw[zW h1];exact⟨FM (lo:=.negSucc 9223372036854775807) zy (by rw[e1];omega),rfl⟩
 ·rw[za h1];by_cases h2:(Jk k).1.2 < n
  ·rw[zW h2];exact⟨FM (hi:=.ofNat 9223372036854775807) (by rw[e2];omega) (by show n≤(9223372036854775807:Int);omega),rfl⟩
  ·rw[za h2];exact⟨FM zy zy,rfl⟩
theorem DZ {j:Nat}:∀{l:List Nat},Qg j l=true↔j∈l
 |[]=>by simp[Qg]
 |x::l=>by
  unfold Qg
  cases h:Nat.beq j x with
  |true=>simp[(beq_iff _ _).1 h]
  |false=>
   have hne:j≠x:=fun e=>by rw[(beq_iff _ _).2 e] at h;cases h
   simp only[cond_false,List.mem_cons,hne,false_or];exact DZ
theorem Yd {r:Int}{l:List Nat}(hl:∀x∈l,x < 9):Qg (sZ r) l=(l.map fun (x:Nat)=>(x:Int)).contains r:=by
 rw[yX,DZ,List.contains_iff_mem,zX];unfold sZ;constructor
 ·intro h;by_cases h1:r < 0
  ·rw[zW h1] at h;have:=hl _ h;omega
  ·rw[za h1] at h;by_cases h2:8 < r
   ·rw[zW h2] at h;have:=hl _ h;omega
   ·rw[za h2] at h;exact⟨_,h,xP zy⟩
 ·rintro ⟨x,hx,rfl⟩;have:=hl x hx;rw[za zy,za zy]
  simpa using hx
theorem GY {k:Nat}(h1:1≤k)(h2:k≤10)(r n:Int):okC k (sZ r) (DN k n)=aP ((k:Int),r,n):=by
 have key:lC (k:Int)=some ((oV k).map (fun (x:Nat)=>(x:Int)),(Jk k).1.1,(Jk k).1.2)∧∀x∈oV k,x < 9:=by
  rcases (show k=1∨k=2∨k=3∨k=4∨k=5∨k=6∨k=7∨k=8∨k=9∨k=10 by omega) with rfl|rfl|rfl|rfl|rfl|rfl|rfl|rfl|rfl|rfl<;>exact⟨rfl,zx⟩
 unfold okC aP;rw[key.1,Yd key.2];dsimp only
 have hn:Nat.beq (DN k n) 1=(decide ((Jk k).1.1≤n) && decide (n≤(Jk k).1.2)):=by
  unfold DN;by_cases h1:n < (Jk k).1.1
  ·rw[zW h1,zN zy];rfl
  ·rw[za h1,zC zy];by_cases h2:(Jk k).1.2 < n
   ·rw[zW h2,zN zy];rfl
   ·rw[za h2,zC zy];rfl
 rw[hn]
 cases ((oV k).map fun (x:Nat)=>(x:Int)).contains r<;>rfl
theorem Xh {S:aj}(hS:ai Tryz.prog S){g:Nat}(h1:∀r n,acO S g r n [1,2,3,4,5]=true)(h2:∀r n,acO S g r n [6,7,8,9,10]=true)(h3:∀k r n,acM S g k r n (.negSucc 9223372036854775807) (.ofNat 0)=some false)(h4:∀k r n,acM S g k r n (.ofNat 11) (.ofNat 9223372036854775807)=some false)
 (o:aG) (ho:B64 o) (w:World) (hG:eT w):Calls Tryz.prog g #[.agg #[.int .i64 o.1,.int .i64 o.2.1,.int .i64 o.2.2]] w fun e w'=>e= .returned (.bool (aP o))∧Below w.heap.size w w':=by
 obtain⟨k,r,n⟩:=o;obtain⟨hk,hr,hn⟩:=ho;dsimp only at hk hr hn ⊢;have hk':=hk;rw[D6,En] at hk';have hC:=aT fB hS;by_cases hlo:k≤0
 ·have hv:aP (k,r,n)=false:=by
   have:lC k=none:=by
    unfold lC;split<;>first|rfl|omega
   simp[aP,this]
  rw[hv];exact mV hC (h3 k r n) ⟨⟨FM zy (by show k≤(0:Int);omega),trivial,trivial,trivial⟩,trivial⟩ w hG
 ·by_cases hhi:10 < k
  ·have hv:aP (k,r,n)=false:=by
    have:lC k=none:=by
     unfold lC;split<;>first|rfl|omega
    simp[aP,this]
   rw[hv];exact mV hC (h4 k r n) ⟨⟨FM (by show (11:Int)≤k;omega) (by show k≤(9223372036854775807:Int);omega),trivial,trivial,trivial⟩,trivial⟩ w hG
  ·obtain⟨k',rfl⟩:∃k':Nat,k=(k':Int):=⟨k.toNat,zy⟩;have a1:1≤k':=zy;have a2:k'≤10:=zy
   have hb:bq (alF S g k' (sZ r) (DN k' n) r n) (okC k' (sZ r) (DN k' n))=true:=by
    have hj:sZ r∈[0,1,2,3,4,5,6,7,8,9,10]:=by
     have:=adj r;simp;omega
    have hc:DN k' n∈[0,1,2]:=by
     have:=adU k' n;simp;omega
    by_cases h5:k'≤5
    ·exact bM (bM (bM (h1 r n) (show k'∈[1,2,3,4,5] by simp;omega)) hj) hc
    ·exact bM (bM (bM (h2 r n) (show k'∈[6,7,8,9,10] by simp;omega)) hj) hc
   have hq:=abh hb;rw[GY a1 a2] at hq;obtain⟨r1,r2⟩:=adk hr;obtain⟨n1,n2⟩:=adV (k:=k') hn;have:=mV hC hq ⟨⟨trivial,r1,n1,trivial⟩,trivial⟩ w hG;simp only[aH,cv,r2,n2] at this;exact this
theorem acL (o:aG)(ho:B64 o)(w:World)(hG:eT w):Calls Tryz.prog 178 #[.agg #[.int .i64 o.1,.int .i64 o.2.1,.int .i64 o.2.2]] w fun e w'=>e= .returned (.bool (aP o))∧Below w.heap.size w w':=
 Xh nR apF apE alD alE o ho w hG
end Ex
section
open Go.RowKit
def BZ (s:ByteArray):List ByteArray→Nat→Int
 |[],_=>-1
 |t::l,k=>if s=t then (k:Int) else BZ s l (k+1)
theorem Ar {s:ByteArray}:∀{l:List ByteArray} {k i:Nat},(∀j t,j < i→l[j]? =some t→s≠t)→i≤l.length→BZ s l k=BZ s (l.drop i) (k+i)
 |l,k,0,_,_=>by simp
 |[],k,i+1,_,h=>by simp at h
 |t::l,k,i+1,h,hl=>by
  have h0:=h 0 t zy rfl;rw[show BZ s (t::l) k=(if s=t then (k:Int) else BZ s l (k+1)) from rfl,za h0,vJ]
  rw[Ar (l:=l) (k:=k+1) (i:=i) (fun j t hj ht=>h (j+1) t zy (by simpa using ht)) (by simpa using hl),show k+1+i=k+(i+1) by omega]
theorem Nw {s:ByteArray}:∀(l:List ByteArray) (k:Nat),decide (0≤BZ s l k)=l.any fun t=>decide (s=t)
 |[],k=>by simp[BZ]
 |t::l,k=>by
  unfold BZ;by_cases h:s=t
  ·subst h;simp
  ·rw[za h,Nw l (k+1),xX,zN h,Bool.false_or]
theorem aht {s t:ByteArray}(h:s≠t):(s.toList == t.toList)=false:=by
 simp only[beq_eq_false_iff_ne];intro e;rw[xH,xH] at e;exact h (xn (yE e))
theorem ZM (A:Option Addr)(l:List ByteArray)(n c:Nat)(s:ByteArray)(w:World)(p:Nat→Prop)(hn:l.length=n)(hm:(n:Int)≤140737488355328)(h:Rd w p A (FE l)):
 Calls Tryz.prog 302 #[.slice A n c,.string s] w fun e w'=>e= .returned (.int .i64 (BZ s l 0))∧w=w':=by
 have HR:=zo h;have HN:=zo hn;clear h hn;go_enter Tryz.func302,Tryz.ntmps302;go_wp2
 go_loop [8] (fun v=>∃k:Nat,v= .int .i64 k∧k≤n∧Hid (∀j t,j < k→l[j]? =some t→s≠t)) (fun v=>n - (intOf v).toNat)
 case atStart=>exact⟨0,rfl,zy,fun j _ hj=>absurd hj (yf _)⟩
 case round=>
  obtain⟨k,rfl,hk,hr⟩:=hrel;by_cases hlt:k < n
  ·obtain⟨b',o,t,rfl,hc0,hz⟩:=HR.afT (k:=k) (by rw[HN.out];exact hlt)
   have HZ:=zo hz;clear hz;by_cases hf:s=t
   ·subst hf;have e1:(s.toList == s.toList)=true:=beq_self_eq_true _
    have HI:Hid (BZ s l 0=(k:Int)):=by
     have h1:=Ar (k:=0) hr.out (by have:=HN.out;omega)
     have hlt2:k < l.length:=by rw[HN.out];exact hlt
     have h2:l.drop k=s::l.drop (k+1):=by
      rw[zK hlt2];have:=zg hlt2;rw[HZ.out] at this;rw[zq this]
     show _=_;rw[h1,h2];unfold BZ;simp
    go_wp2
    all_goals go_ret
    all_goals exact⟨iA HI.symm,rfl⟩
   ·have e1:=aht hf;have HF:=zo hf;clear hf;go_wp2
    go_round
    case rel=>exact⟨k+1,by go_num,zy,fun j t' hj ht=>by
     by_cases e:j=k
     ·subst e;rw[HZ.out] at ht;rw[← zq ht];exact HF.out
     ·exact hr.out j t' zy ht⟩
    case measure=>simp[intOf];omega
  ·have HI:Hid (BZ s l 0= -1):=by
    have h1:=Ar (k:=0) (i:=l.length) (fun j t hj=>hr.out j t (by have:=HN.out;omega)) (zn _)
    show _=_;rw[h1,wN];rfl
   go_wp2
   all_goals go_ret
   all_goals exact⟨iA HI.symm,rfl⟩
theorem Od (A:Option Addr)(l:List ByteArray)(n c:Nat)(s:ByteArray)(w:World)(p:Nat→Prop)(hn:l.length=n)(hm:(n:Int)≤140737488355328)(h:Rd w p A (FE l)):
 Calls Tryz.prog 237 #[.slice A n c,.string s] w fun e w'=>e= .returned (.bool (l.any fun t=>decide (s=t)))∧w=w':=by
 have F:=zo (fun W (hW:w=W)=>ZM A l n c s W p hn hm (by rw[← hW];exact h))
 have HA:=zo (Nw (s:=s) l 0);clear h hn hm;go_enter Tryz.func237,Tryz.ntmps237
 go_wp2_with (go_at_call 302;refine (F.out _ rfl).mono ?_;rintro e w' ⟨rfl,rfl⟩)
 all_goals go_ret
 all_goals exact⟨dz HA.out,rfl⟩
end
namespace Ex
open Go.RowKit
def oG:List Nat→Nat
 |[]=>0
 |c::l=>cond (Nat.beq c 119) 2 1+oG l
def FB (p:Nat)(d:bL):Nat:=(match p with|0=>1|5=>3|6=>3|_=>2)+oG d.2.2.1
end Ex
section
open Go.RowKit Ex
abbrev WH:=List (Nat×Nat×Bool)
abbrev Ri:=List Nat×WH×Nat
def ahp:List Nat→List WH
 |k::r::_::l=>(ahp l).flatMap fun m=>cond (Nat.beq k 5 || Nat.beq k 10) [(k,r,false)::m,(k,r,true)::m] [(k,r,false)::m]
 |_=>[[]]
def afJ:List Nat→Bool
 |_::_::n::l=>Nat.beq n 0 && afJ l
 |_=>true
def Zn (p:Nat)(d:bL):List Ri:=cond (Nat.beq d.1 1 && !d.2.2.2.1) ((ahp d.2.2.2.2).map fun l=>(d.2.1,l,FB p d)) []
def agh:Nat→List (List (List bL))→List (List Ri)
 |_,[]=>[]
 |p,r::l=>(r.flatMap fun c=>c.flatMap fun d=>cond (afJ d.2.2.2.2) (Zn p d) [])::agh (p+1) l
def aiE:{l:List (List Ri) // l=agh 0 DF}:=⟨_,by conv=>rhs;reduce⟩
def aiF (p:Nat):List Ri:=(iw aiE.1 p).getD []
def lT:List Ri:=aiE.1.flatten
def Zc:WH→WH→Bool
 |[],[]=>true
 |x::l,y::m=>Nat.beq x.1 y.1 && (Nat.beq x.2.1 y.2.1 && ((x.2.2 == y.2.2) && Zc l m))
 |_,_=>false
def aed (x:Ri):List Ri→Bool
 |[]=>false
 |y::l=>cond (gH y.1 x.1 && (Zc y.2.1 x.2.1 && Nat.beq y.2.2 x.2.2)) true (aed x l)
theorem Zr:allT (fun p _ d=>(Zn p d).all fun x=>aed x (aiF p)) 0 DF=true:=by kernel_rfl
end
namespace Ex
open Go.RowKit
def rgS:{l:List (List (List Nat)) // l=[[],FD 32 (dc 0x422043204420452048204c202041),FD 32 (dc 0x4958482049584c204959482049594c2020202020),FD 32 (dc 0x424320444520484c2053502041462049582049592041462720),FD 32 (dc 0x424320444520484c20535020204958204959202043),FD 32 (dc 0x202020202049582049592020),FD 32 (dc 0x2a2020202020202020),FD 32 (dc 0x2a2020202020202020),FD 32 (dc 0x4e5a205a204e43204320504f2050452050204d20),FD 32 (dc 0x49205220202020202020),FD 32 (dc 0x2a2020202020202020)]}:=⟨_,by conv=>rhs;reduce⟩
def rgT (k:Nat):List (List Nat):=(iw rgS.1 k).getD []
def ky (k r:Nat):List Nat:=(iw (rgT k) r).getD []
def opT (k r:Nat):List Nat:=cond (Nat.beq k 4) (40::(ky k r++[41])) (ky k r)
def plK:List Nat:=[1,2,3,4,8,9]
noncomputable def plB (k r:Nat):Bool:=cond (gH (ky k r) []) true (di (dx S1) bE 107 ([.agg [.int .i64 (.ofNat k),.int .i64 (.ofNat r),.int .i64 (.ofNat 0)]],.str (opT k r),1,[]))
theorem ahS:(plK.all fun k=>(List.range 9).all (plB k))=true:=by kernel_rfl
theorem acZ {k r:Nat}(hk:k∈plK)(hr:r < 9)(hn:ky k r≠[])(w:World)(hG:eT w):
 Calls Tryz.prog 107 #[.agg #[.int .i64 (k:Int),.int .i64 (r:Int),.int .i64 0]] w fun e w'=>e= .returned (.string (ag (opT k r)))∧Below w.heap.size w w':=by
 have h:=zY.1 (zY.1 ahS k hk) r (yS.2 hr);unfold plB at h
 cases hq:gH (ky k r) [] with
 |true=>exact absurd (bJ hq) hn
 |false=>
 rw[hq] at h;refine wW (show Calls Tryz.prog 107 #[.agg #[.int .i64 (k:Int),.int .i64 (r:Int),.int .i64 0]] w _ from (qI (r:=(.str (opT k r),1,[])) (aT fB BO) rfl (show abf _ _ _ _ _=true from h)).2.2 w iY w (CY hG _)) ?_
 rintro e w' ⟨ρ',rfl,hP,_⟩;exact⟨rfl,hP.fZ rfl⟩
def qM:List (Nat×Nat×Int×Int×Nat):=[(5,5,.negSucc 127,.ofNat 127,305),(5,6,.negSucc 127,.ofNat 127,305),(6,0,.negSucc 32767,.ofNat 65535,307),(7,0,.ofNat 0,.ofNat 65535,308),(10,0,.negSucc 127,.ofNat 127,309)]
def knA (x:Nat×Nat×Int×Int×Nat):List AV:=(rgT x.1).map .str++[.int .i64 x.2.2.1,.int .i64 x.2.2.2.1]
def ofQ (x:Nat×Nat×Int×Int×Nat):Option (AV×AW)→Bool
 |some (.tuple [.agg l,.str s,.bool true],W)=>match W.az,l.drop 11 with
  |[],[.fn (.func g) [] []]=>lI (l.take 11) (knA x) && (Nat.beq g x.2.2.2.2 && gH s (ky x.1 x.2.1))
  |_,_=>false
 |_=>false
def ofA (x:Nat×Nat×Int×Int×Nat)(n:Int):List AV:=[.agg [.int .i64 (.ofNat x.1),.int .i64 (.ofNat x.2.1),.sym [(x.2.2.1,x.2.2.2.1,true)] n]]
theorem aie (n:Int):(qM.all fun x=>ofQ x (dx OV 175 (ofA x n) ⟨0,[],[],bE⟩))=true:=by kernel_rfl
theorem aid {x:Nat×Nat×Int×Int×Nat}(hx:x∈qM){n:Int}(h1:x.2.2.1≤n)(h2:n≤x.2.2.2.1)(w:World)(hG:eT w):
 Calls Tryz.prog 175 #[.agg #[.int .i64 (x.1:Int),.int .i64 (x.2.1:Int),.int .i64 n]] w fun e w'=>e= .returned (.tuple #[.agg (aH iY (knA x)++[Value.func (.func x.2.2.2.2) #[] #[]]).toArray,.string (ag (ky x.1 x.2.1)),.bool true])∧Below w.heap.size w w':=by
 have h:=zY.1 (aie n) x hx;have hfl:=zY.1 (show qM.all (fun x=>gY (knA x))=true by kernel_rfl) x hx
 generalize hr:dx OV 175 (ofA x n) ⟨0,[],[],bE⟩=r at h;unfold ofQ at h;split at h
 case h_2=>cases h
 case h_1 l s W=>
 split at h
 case h_2=>cases h
 case h_1 g hm hd=>
 simp only[Bool.and_eq_true] at h;obtain rfl:=(beq_iff _ _).1 h.2.1;obtain rfl:=bJ h.2.2
 have hl:l=knA x++[.fn (.func x.2.2.2.2) [] []]:=by
  rw[← fE h.1,← hd,vW]
 refine wW (show Calls Tryz.prog 175 #[.agg #[.int .i64 (x.1:Int),.int .i64 (x.2.1:Int),.int .i64 n]] w _ from qJ (aT fB nR) hr hm ⟨⟨trivial,trivial,fun f hf=>by
  obtain rfl:=zR.1 hf;simp[h1,h2],trivial⟩,trivial⟩ w hG) ?_
 rintro e w' ⟨ρ,rfl,_,hb⟩;refine⟨?_,hb⟩
 have hc:aH ρ l=aH iY (knA x)++[Value.func (.func x.2.2.2.2) #[] #[]]:=by
  rw[hl,bz,yu,← bz,aaf hfl iY ρ];rfl
 show Ending.returned (.tuple #[.agg (aH ρ l).toArray,_,_])=_;rw[hc];rfl
end Ex
